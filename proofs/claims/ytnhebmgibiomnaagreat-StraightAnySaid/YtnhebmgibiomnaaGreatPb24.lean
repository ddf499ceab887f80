/- Parts of the proof, joined: BdB. -/
import Derived.Deep.DeepCutAuto
import Derived.Deep.RegionHeld
import Derived.Laws.MakeOwn
import Derived.Test.YtnhebmgibiomnaaGreatPb23
set_option linter.unusedVariables false
set_option linter.unusedSimpArgs false
set_option maxRecDepth 100000
set_option maxHeartbeats 8000000
namespace Go.Proofs.YtnhebmgibiomnaaGreat
theorem Kf {l n:Nat} {P:Program} {o:Oper} {a:Act} {next next':Act→World→Prop} {Q:Exit→Act→World→Prop} (hn:∀ a w,next a w→next' a w) :
  ∀ r:Result Next,o.upon P a next Q r→o.uponIn (Fence.wide.inRound l) n P a next' Q r:=by
 intro r h;unfold Oper.upon at h;split at h
 ·exact hn _ _ h
 ·exact hn _ _ h
 ·exact hn _ _ h
 ·refine⟨fun h=>by simp[Fence.wide] at h,CallsIn.inRound l (callsIn_wide.2 (Calls.mono h ?_))⟩;intro e w' h;split at h
  ·exact hn _ _ h
  ·exact h
  ·exact h
 ·refine⟨fun h=>by simp[Fence.wide] at h,fun c cs _=>?_⟩;obtain⟨v,w',r,s⟩:=h c cs;exact⟨v,w',hn _ _ r,stepsIn_wide.2 s⟩
 ·exact h
 ·exact h.elim
theorem Nd {l n:Nat} {P:Program} {ops:Array Oper} {Q:Exit→Act→World→Prop} (hd:∀ (i:Nat) (o:Oper) c,ops[i]?=some o→o.op≠.defer c) (hQ:¬ LetsOut Q) :
  ∀ (is:List Nat) (a:Act) (w:World),wpOps P ops Q is a w→wpOpsIn (Fence.wide.inRound l) n P ops Q is a w:=by
 intro is
 induction is with
 | nil=>intro a w h;exact h
 | cons i rest ih =>
  intro a w h;unfold wpOps at h;unfold wpOpsIn;cases ho:ops[i]? with
  | none=>rw[ho] at h;exact ih a w h
  | some o =>
   rw[ho] at h;simp only at h ⊢;split at h
   ·rename_i hw;rw[if_pos hw];rcases h with h|h
    ·refine⟨fun _ _=>trivial,?_⟩
     show o.uponIn _ n P a _ Q ((o.semAt (some l) a.eval).run P w)
     rw[Oper.semAt_some l a.eval o (fun c=>hd i o c ho)];exact Kf (fun a w=>ih a w) _ h
    ·exact absurd h.2 hQ
   ·rename_i hw;rw[if_neg hw];exact⟨fun _ _=>trivial,ih _ _ h⟩
def Pj (ops:Array Oper):Bool:=ops.toList.all fun o=>match o.op with|.defer _=>false|_=>true
theorem Ng {ops:Array Oper} (h:Pj ops=true) (i:Nat) (o:Oper) (c) (ho:ops[i]?=some o):o.op≠.defer c:=by
 intro he;have hm:o∈ops.toList:=by
  have:=List.mem_of_getElem? (by simpa using ho:ops.toList[i]?=some o);exact this
 have:=List.all_eq_true.1 h o hm;rw[he] at this;simp at this
theorem Jd {l n id:Nat} {P:Program} {ops:Array Oper} {Q:Exit→Act→World→Prop} {a:Act} {w:World} (hm:P.follows .mixedOrders=true) (hd:Pj ops=true) (hQ:¬ LetsOut Q)
  (h:wpAny P .any ops Q ops.size (Array.replicate ops.size false) a w.drew):(Code.region id ops true).wpIn (Fence.wide.inRound l) n P Q a w :=
 wpIn_region_draw fun t=>by
  simp only[Region.schedule,hm,Bool.true_or,if_true];exact Nd (Ng hd) hQ _ _ _ (wpAny_sound ops.size t _ a _ h)
theorem Dl {l n id:Nat} {P:Program} {ops:Array Oper} {Q:Exit→Act→World→Prop} {a:Act} {w:World} (S:World→Prop) (hm:P.follows .mixedOrders=true) (hd:Pj ops=true) (hQ:¬ LetsOut Q)
  (hS:S w.drew) (h:S w.drew→wpAnyH P .any ops Q S ops.size (Array.replicate ops.size false) a w.drew):(Code.region id ops true).wpIn (Fence.wide.inRound l) n P Q a w :=
 Jd hm hd hQ (wpAny_of_held _ _ _ _ (h hS))
end Go.Proofs.YtnhebmgibiomnaaGreat
namespace Go.Proofs.YtnhebmgibiomnaaGreat
open Go.RowKit Go.Shelf
attribute [local go_sem] Oper.semAt_some
theorem Kl {P:Program} {f:FuncId} {fn:Func} {c:Code} {args:Array Value} {w:World} {R:Ending→World→Prop} (hf:P.funcs[f]?=some fn) (hb:fn.body=some c)
  (h:c.wp P (bodyPostM Fence.wide 8 P fn R) { tmps:=args++Array.replicate (fn.ntmps-args.size) undef,defers:=[] } w):Calls P f args w R :=
 (callsIn_wide (n:=8)).1 (callsIn_of_wp_marks hf hb trivial (wpIn_wide.2 h) rfl)
theorem Oe {n m at_ op a:Int} (hal:Bd.always n m at_ (op,a)=0):(Bd.jumps op=true→0≤a∧a≤n-1-at_)∧(Bd.calls op=true→0≤a∧a<m):=by
 unfold Bd.always at hal;simp only at hal;split at hal
 ·simp at hal
 ·split at hal
  ·simp at hal
  ·rename_i h2;split at hal
   ·simp at hal
   ·rename_i h3;refine⟨fun h=>?_,fun h=>?_⟩
    ·simp[h] at h2;exact h2
    ·simp[h] at h3;exact h3
theorem Sb {n at_ op a:Int} (h0:0≤at_) (h1:at_<n) (hj:Bd.jumps op=true→0≤a∧a≤n-1-at_):∀ t∈Bd.ways at_ (op,a),0≤t∧t<n+1:=by
 intro t ht;unfold Bd.ways at ht;simp only[List.mem_append] at ht;rcases ht with ht|ht
 ·split at ht
  ·simp at ht
  ·simp at ht;omega
 ·split at ht
  ·rename_i h;have:=hj h;simp at ht;omega
  ·simp at ht
theorem Pd (pl:List Bd.Place):∀ (i:Nat) (q:Bd.Place),i<pl.length→Bv (pl.set i q)=(((Bv pl).set (i*3) (.bool q.known)).set (i*3+1) (.int .i64 q.high)).set (i*3+2) (.int .i64 q.steps):=by
 induction pl with
 | nil=>intro i q h;simp at h
 | cons p r ih =>
  intro i q h;cases i with
  | zero=>simp[Bv]
  | succ i =>
   have:=ih i q (by simpa using h);rw[show (i+1)*3=i*3+3 by omega];simp[Bv,this]
theorem Pn {X AT:Nat} (W:World) (p:Addr) (u:Value) (hX:X≠p.block) (hA:AT≠p.block):KpB X AT W (W.setCell p u):=by
 intro b o v hb hc;rw[World.cell?_setCell_other _ _ _ _ (fun e=>by have h1:=congrArg Addr.block e;simp only at h1;rcases hb with rfl|rfl <;> omega)];exact hc
theorem Re {X AT:Nat} {W W':World} (h:KpB X AT W W'):KpB X AT W W'.drew:=h
theorem Gj (e:Bd.Eff):∀ (l:List Int) (pl:List Bd.Place),(l.foldl (Bd.mark e) pl).length=pl.length:=by
 intro l
 induction l with
 | nil=>intro pl;rfl
 | cons t r ih=>intro pl;rw[List.foldl_cons,ih];simp[Bd.mark]
theorem Tf (pl:List Bd.Place) (tn:Nat) (h:tn<pl.length) (e:Bd.Eff) (q:Bd.Place) (hq:Bd.pat pl (tn:Int)=q) :
  ((((Bv pl).toArray.setIfInBounds (tn*3+2) (.int .i64 (max q.steps e.steps))).setIfInBounds (tn*3) (.bool true)).setIfInBounds (tn*3+1) (.int .i64 e.high))=(Bv (Bd.mark e pl tn)).toArray:=by
 unfold Bd.mark;rw[hq,show ((tn:Int)).toNat=tn by omega,Pd pl tn _ h];simp only[List.setIfInBounds_toArray]
 congr 1
 rw[List.set_comm _ _ (show tn*3+2≠tn*3 by omega),List.set_comm _ _ (show tn*3+2≠tn*3+1 by omega)]
theorem Wq (x y:Int):(if x<y then y else x)=max x y:=by omega
theorem look_C (P G B:Nat) (Ac Af:Option Addr) (n cc m cf:Nat) (fs:List Bd.Cost) (s:Bd.St) (at_ op a:Int) (w:World) (h:PfAt w P G B Ac Af n cc m cf fs s) (hok:Bd.Ok n s) (hfs:fs.all Bd.mayBe=true) (ha0:0≤at_) (ha1:at_<n) (hn:n≤1000000000000000)
  (hal:Bd.always n fs.length at_ (op,a)=0) (hk:(Bd.pat s.pl at_).known=true) :
  Calls Tryz.prog 88 #[.pointer (some ⟨P,0,none⟩),.int .i64 at_,.agg #[.int .i64 op,.int .i64 a]] w (LookPost w P G B Ac Af n cc m cf fs (Bd.look n fs s at_ (op,a))):=by
 have hokq:=Bd.pat_bd hok at_;have HALF:=Aa hal;have HAL:=Aa (show Bd.always n m at_ (op,a)=0 by rw[h.hm];exact hal);have hPl:=h.hP.lt;have hGl:=h.hG.lt;have H:=Aa h;have HP:=Aa h.hP;obtain⟨an,rfl⟩:=Int.eq_ofNat_of_zero_le ha0;obtain⟨q,hq⟩:∃ q,s.pl[an]?=some q:=⟨_,List.getElem?_eq_getElem (by have:=h.hl;omega)⟩;have hpat:Bd.pat s.pl (an:Int)=q:=by unfold Bd.pat;rw[List.getD_eq_getElem?_getD];simp[hq]
 rw[hpat] at hk hokq;obtain⟨g0,g1,g2⟩:=Es s.pl an q hq;have HEF:=Aa (fun W hb=>Tw P G B Ac Af n cc m cf fs s an op a W (h.below (w':=W) hb) q hokq hfs hal);have heb:=Bd.effect_bd hfs hokq (op,a);have HPAT:=Aa hpat;have hPG:P≠G:=h.hP.ne_ h.hG (by decide);clear hal h hq hpat hokq;obtain⟨qk,qh,qs⟩:=q;simp only at hk g0 g1 g2 HEF;subst hk;refine Kl Tryz.func88 rfl ?_;simp only[Tryz.ntmps88,List.size_toArray,List.length_cons,List.length_nil,Nat.reduceAdd,Nat.reduceSub,Array.replicate_succ,Array.replicate_zero,List.push_toArray,List.append_toArray,List.nil_append,List.cons_append];go_wp2_with fail
 refine(Hr _ an op a _).mono ?_;rintro e w' ⟨rfl,rfl⟩;go_wp2_with fail
 refine(Fs (w.heap.size+1+1+1+1+1) (w.heap.size+1+1+1+1) (w.heap.size+1+1) (w.heap.size+1+1+1) P op a an Ac Af n cc m cf _ _ _ _ (Blk.new_at _ _ _ (by simp)) ((Blk.new_at _ _ _ (by simp)).alloc _) ((((Blk.new_at _ _ _ (by simp)).alloc _).alloc _).alloc _) (((Blk.new_at _ _ _ (by simp)).alloc _).alloc _) (by exact(((((HP.out.alloc _).alloc _).alloc _).alloc _).alloc _).alloc _) ha0 (by omega) hn).mono ?_;rintro e w1 ⟨rfl,hb⟩;have hbw:Below w.heap.size w w1:=Below.trans (by repeat (first|exact aliasBr|assumption|(refine Below.setCell ?_ (by first|omega|(simp;done)|(simp;omega)) _)|(refine Below.drew ?_)|(refine below_drewN ?_ _)|(refine Below.alloc ?_ (by first|omega|(simp;done)|(simp;omega)) _))) (hb.mono (by first|omega|(simp;done)|(simp;omega)|(simp only[World.size_alloc,World.size_drew];omega)));have v0:Blk w1 w.heap.size 193 #[.pointer (some ⟨P,0,none⟩)]:=Blk.below ((((((Blk.new_at _ _ _ (by simp)).alloc _).alloc _).alloc _).alloc _).alloc _) hb (by first|omega|(simp;done)|(simp;omega)|(simp only[World.size_alloc,World.size_drew];omega));have v1:Blk w1 (w.heap.size+1) 96 #[.int .i64 op,.int .i64 a]:=Blk.below (((((Blk.new_at _ _ _ (by simp)).alloc _).alloc _).alloc _).alloc _) hb (by first|omega|(simp;done)|(simp;omega)|(simp only[World.size_alloc,World.size_drew];omega));have hz1:w.heap.size+6≤w1.heap.size:=by have:=hb.size;simp at this;omega
 rw[HAL.out];clear hb;have u0:w1.cell? ⟨w.heap.size,0,none⟩=some (.pointer (some ⟨P,0,none⟩)):=by rw[v0.cell];rfl
 have x0:w1.cell? ⟨w.heap.size+1,0,none⟩=some (.int .i64 op):=by rw[v1.cell];rfl
 have x1:w1.cell? ⟨w.heap.size+1,1,none⟩=some (.int .i64 a):=by rw[v1.cell];rfl
 have u1:w1.cell? ⟨P,2,none⟩=some (.slice (some ⟨G,0,none⟩) (n+1) (n+1)):=by rw[(HP.out.below hbw hPl).cell];rfl
 have d0:w1.cell? ⟨G,an*3,none⟩=some (.bool true):=by rw[(H.out.hG.below hbw hGl).cell];simpa using g0
 have d1:w1.cell? ⟨G,an*3+1,none⟩=some (.int .i64 qh):=by rw[(H.out.hG.below hbw hGl).cell];simpa using g1
 have d2:w1.cell? ⟨G,an*3+2,none⟩=some (.int .i64 qs):=by rw[(H.out.hG.below hbw hGl).cell];simpa using g2
 have hlt:an<n+1:=by omega
 have y1:w.heap.size<w1.heap.size:=by omega
 have y2:w.heap.size+1<w1.heap.size:=by omega
 have HV0:=Aa v0;have HV1:=Aa v1;clear g0 g1 g2 v0 v1;go_wp2_with fail
 refine(HEF.out _ (by exact hbw.alloc (by omega) _)).mono ?_;rintro e w2 ⟨rfl,hb2⟩;have hbw2:Below w.heap.size w w2:=(hbw.alloc (by omega) _).trans (hb2.mono (by simp;omega));have v0:Blk w2 w.heap.size 193 #[.pointer (some ⟨P,0,none⟩)]:=(HV0.out.alloc _).below hb2 (by simp;omega);have v1:Blk w2 (w.heap.size+1) 96 #[.int .i64 op,.int .i64 a]:=(HV1.out.alloc _).below hb2 (by simp;omega);have hz2:w.heap.size+7≤w2.heap.size:=by have:=hb2.size;simp at this;omega
 clear hb2 u0 x0 x1 u1 d0 d1 d2 hbw hz1 y1 y2 HV0 HV1 HEF;have u0:w2.cell? ⟨w.heap.size,0,none⟩=some (.pointer (some ⟨P,0,none⟩)):=by rw[v0.cell];rfl
 have x0:w2.cell? ⟨w.heap.size+1,0,none⟩=some (.int .i64 op):=by rw[v1.cell];rfl
 have x1:w2.cell? ⟨w.heap.size+1,1,none⟩=some (.int .i64 a):=by rw[v1.cell];rfl
 have bP:=HP.out.below hbw2 hPl;have p2:w2.cell? ⟨P,2,none⟩=some (.slice (some ⟨G,0,none⟩) (n+1) (n+1)):=by rw[bP.cell];rfl
 have p3:w2.cell? ⟨P,3,none⟩=some (.int .i64 s.need):=by rw[bP.cell];rfl
 have p4:w2.cell? ⟨P,4,none⟩=some (.int .i64 s.peak):=by rw[bP.cell];rfl
 have fp3:w2.frozen? ⟨P,3,none⟩=false:=bP.frozen 3;have fp4:w2.frozen? ⟨P,4,none⟩=false:=bP.frozen 4;have y1:w.heap.size<w2.heap.size:=by omega
 have y2:w.heap.size+1<w2.heap.size:=by omega
 have y3:P<w2.heap.size:=by omega
 have y4:P<w.heap.size:=hPl;have y5:G<w2.heap.size:=by omega
 have HV0:=Aa v0;have HV1:=Aa v1;have HBP:=Aa bP;clear v0 v1 bP;have hmx:=Wq;generalize hee:Bd.effect fs ⟨true,qh,qs⟩ (op,a)=ee at *;have HEE:=Aa hee;clear hee;obtain⟨en,ep,eh,es⟩:=ee;simp only at heb;go_upto_region 8 with fail
 go_cut [] from 35 to 54 (fun wx=>Blk wx P 200 #[.slice Ac n cc,.slice Af m cf,.slice (some ⟨G,0,none⟩) (n+1) (n+1),.int .i64 (max s.need en),.int .i64 (max s.peak ep)]∧Fr (fun k=>k=P) (w2.alloc (.cells #[.int .i64 en,.int .i64 ep,.int .i64 eh,.int .i64 es] 238)) wx)
 case first =>
  rename_i J1 K1 hJ1 hK1;have hbb:=HBP.out.alloc (.cells #[.int .i64 en,.int .i64 ep,.int .i64 eh,.int .i64 es] 238);have HBB:=Aa hbb;clear hbb HBP HV0 HV1 H HP HAL HALF HEE HPAT hok hfs hn ha0 ha1 heb hlt hbw2 hz2 hGl x0 x1 p2 y2 y4 y5;have k1:P≠w.heap.size:=by omega
  have k2:P≠w2.heap.size:=by omega
  have k3:w.heap.size≠P:=by omega
  have k4:w2.heap.size≠P:=by omega
  have k5:w.heap.size≠w2.heap.size:=by omega
  have a0:(w2.alloc (.cells #[.int .i64 en,.int .i64 ep,.int .i64 eh,.int .i64 es] 238)).cell? ⟨w.heap.size,0,none⟩=some (.pointer (some ⟨P,0,none⟩)):=by rw[World.cell?_alloc_lt _ _ _ (by simp only;omega)];exact u0
  have a1:(w2.alloc (.cells #[.int .i64 en,.int .i64 ep,.int .i64 eh,.int .i64 es] 238)).cell? ⟨w2.heap.size,0,none⟩=some (.int .i64 en):=by rw[World.cell?_alloc_new];rfl
  have a2:(w2.alloc (.cells #[.int .i64 en,.int .i64 ep,.int .i64 eh,.int .i64 es] 238)).cell? ⟨w2.heap.size,1,none⟩=some (.int .i64 ep):=by rw[World.cell?_alloc_new];rfl
  have a3:(w2.alloc (.cells #[.int .i64 en,.int .i64 ep,.int .i64 eh,.int .i64 es] 238)).cell? ⟨P,3,none⟩=some (.int .i64 s.need):=by rw[HBB.out.cell];rfl
  have a4:(w2.alloc (.cells #[.int .i64 en,.int .i64 ep,.int .i64 eh,.int .i64 es] 238)).cell? ⟨P,4,none⟩=some (.int .i64 s.peak):=by rw[HBB.out.cell];rfl
  have a5:(w2.alloc (.cells #[.int .i64 en,.int .i64 ep,.int .i64 eh,.int .i64 es] 238)).frozen? ⟨P,3,none⟩=false:=HBB.out.frozen 3;have a6:(w2.alloc (.cells #[.int .i64 en,.int .i64 ep,.int .i64 eh,.int .i64 es] 238)).frozen? ⟨P,4,none⟩=false:=HBB.out.frozen 4;clear u0 p3 p4 fp3 fp4;have hbb:=HBB.out;clear HBB;obtain⟨WW,hWW⟩:∃ WW,w2.alloc (.cells #[.int .i64 en,.int .i64 ep,.int .i64 eh,.int .i64 es] 238)=WW:=⟨_,rfl⟩;rw[hWW] at a0 a1 a2 a3 a4 a5 a6 hbb ⊢;have HBB:=Aa hbb;have HWW:=Aa hWW;clear hbb hWW;refine wp_region_noPanic ?_;refine wp_region_held_drew (S:=fun w'=>w'.cell? ⟨w.heap.size,0,none⟩=some (.pointer (some ⟨P,0,none⟩))∧w'.cell? ⟨w2.heap.size,0,none⟩=some (.int .i64 en)∧w'.cell? ⟨w2.heap.size,1,none⟩=some (.int .i64 ep)) (by kernel_rfl) ⟨a0,a1,a2⟩ ?_;intro hS;have HJ1:=Aa hJ1;have HK1:=Aa hK1;clear hJ1 hK1;refine wpAnyH_take (i:=0) (v:=.pointer (some ⟨P,0,none⟩)) rfl (by kernel_rfl) (by kernel_rfl) (by kernel_rfl) (fun _ _ _ h=>h) (Or.inl ⟨by kernel_rfl,fun wq hq=>by first|(go_simp;done)|rfl⟩) hS ?_;refine wpAnyH_take (i:=1) (v:=.pointer (some ⟨P,0,none⟩)) rfl (by kernel_rfl) (by kernel_rfl) (by kernel_rfl) (fun _ _ _ h=>h) (Or.inl ⟨by kernel_rfl,fun wq hq=>by first|(go_simp;done)|rfl⟩) hS ?_;refine wpAnyH_take (i:=2) (v:=.pointer (some ⟨P,0,none⟩)) rfl (by kernel_rfl) (by kernel_rfl) (by kernel_rfl) (fun _ _ _ h=>h) (Or.inl ⟨by kernel_rfl,fun wq hq=>by first|(go_simp;done)|rfl⟩) hS ?_
  refine wpAnyH_take (i:=3) (v:=.pointer (some ⟨P,0,none⟩)) rfl (by kernel_rfl) (by kernel_rfl) (by kernel_rfl) (fun _ _ _ h=>h) (Or.inl ⟨by kernel_rfl,fun wq hq=>by first|(go_simp;done)|rfl⟩) hS ?_;refine wpAnyH_take (i:=4) (v:=.pointer (some ⟨P,3,none⟩)) rfl (by kernel_rfl) (by kernel_rfl) (by kernel_rfl) (fun _ _ _ h=>h) (Or.inl ⟨by kernel_rfl,fun wq hq=>by first|(go_simp;done)|rfl⟩) hS ?_;refine wpAnyH_take (i:=6) (v:=.pointer (some ⟨w2.heap.size,0,none⟩)) rfl (by kernel_rfl) (by kernel_rfl) (by kernel_rfl) (fun _ _ _ h=>h) (Or.inl ⟨by kernel_rfl,fun wq hq=>by first|(go_simp;done)|rfl⟩) hS ?_;refine wpAnyH_take (i:=7) (v:=.int .i64 en) rfl (by kernel_rfl) (by kernel_rfl) (by kernel_rfl) (fun _ _ _ h=>h) (Or.inl ⟨by kernel_rfl,fun wq hq=>by first|(go_simp;done)|rfl⟩) hS ?_;refine wpAnyH_take (i:=9) (v:=.pointer (some ⟨P,0,none⟩)) rfl (by kernel_rfl) (by kernel_rfl) (by kernel_rfl) (fun _ _ _ h=>h) (Or.inl ⟨by kernel_rfl,fun wq hq=>by first|(go_simp;done)|rfl⟩) hS ?_;refine wpAnyH_take (i:=10) (v:=.pointer (some ⟨P,0,none⟩)) rfl (by kernel_rfl) (by kernel_rfl) (by kernel_rfl) (fun _ _ _ h=>h) (Or.inl ⟨by kernel_rfl,fun wq hq=>by first|(go_simp;done)|rfl⟩) hS ?_;refine wpAnyH_take (i:=11) (v:=.pointer (some ⟨P,4,none⟩)) rfl (by kernel_rfl) (by kernel_rfl) (by kernel_rfl) (fun _ _ _ h=>h) (Or.inl ⟨by kernel_rfl,fun wq hq=>by first|(go_simp;done)|rfl⟩) hS ?_
  refine wpAnyH_take (i:=13) (v:=.pointer (some ⟨w2.heap.size,1,none⟩)) rfl (by kernel_rfl) (by kernel_rfl) (by kernel_rfl) (fun _ _ _ h=>h) (Or.inl ⟨by kernel_rfl,fun wq hq=>by first|(go_simp;done)|rfl⟩) hS ?_;refine wpAnyH_take (i:=14) (v:=.int .i64 ep) rfl (by kernel_rfl) (by kernel_rfl) (by kernel_rfl) (fun _ _ _ h=>h) (Or.inl ⟨by kernel_rfl,fun wq hq=>by first|(go_simp;done)|rfl⟩) hS ?_;refine wpAnyH_ready (rs:=[5,12]) (by kernel_rfl) (by simp) ?_;refine AllReadyH.cons rfl (fun K hK=>?_) (AllReadyH.cons rfl (fun K hK=>?_) AllReadyH.nil)
  ·go_simp;refine hK.out _ _ hS (fun hS=>?_);clear hK K;refine wpAnyH_take (i:=8) (v:=.int .i64 (max s.need en)) rfl (by kernel_rfl) (by kernel_rfl) (by kernel_rfl) (fun _ _ _ h=>h) (Or.inl ⟨by kernel_rfl,fun wq hq=>by first|(go_simp;done)|rfl⟩) hS ?_;refine wpAnyH_ready (rs:=[12]) (by kernel_rfl) (by simp) ?_;refine AllReadyH.cons rfl (fun K hK=>?_) AllReadyH.nil;go_simp;refine hK.out _ _ (by exact hS) (fun hS=>?_);clear hK K;refine wpAnyH_take (i:=15) (v:=.int .i64 (max s.peak ep)) rfl (by kernel_rfl) (by kernel_rfl) (by kernel_rfl) (fun _ _ _ h=>h) (Or.inl ⟨by kernel_rfl,fun wq hq=>by first|(go_simp;done)|rfl⟩) hS ?_;refine wpAnyH_take (i:=16) (v:=.pointer (some ⟨P,0,none⟩)) rfl (by kernel_rfl) (by kernel_rfl) (by kernel_rfl) (fun _ _ _ h=>h) (Or.inl ⟨by kernel_rfl,fun wq hq=>by first|(go_simp;done)|rfl⟩) hS ?_;refine wpAnyH_take (i:=17) (v:=.pointer (some ⟨P,3,none⟩)) rfl (by kernel_rfl) (by kernel_rfl) (by kernel_rfl) (fun _ _ _ h=>h) (Or.inl ⟨by kernel_rfl,fun wq hq=>by first|(go_simp;done)|rfl⟩) hS ?_;refine wpAnyH_ready (rs:=[18]) (by kernel_rfl) (by simp) ?_;refine AllReadyH.cons rfl (fun K hK=>?_) AllReadyH.nil;go_simp;refine hK.out _ _ (by exact⟨(World.cell?_setCell_far _ _ _ _ k1).trans hS.1,(World.cell?_setCell_far _ _ _ _ k2).trans hS.2.1,(World.cell?_setCell_far _ _ _ _ k2).trans hS.2.2⟩) (fun hS=>?_);clear hK K
   refine wpAnyH_take (i:=19) (v:=.pointer (some ⟨P,0,none⟩)) rfl (by kernel_rfl) (by kernel_rfl) (by kernel_rfl) (fun _ _ _ h=>h) (Or.inl ⟨by kernel_rfl,fun wq hq=>by first|(go_simp;done)|rfl⟩) hS ?_;refine wpAnyH_take (i:=20) (v:=.pointer (some ⟨P,4,none⟩)) rfl (by kernel_rfl) (by kernel_rfl) (by kernel_rfl) (fun _ _ _ h=>h) (Or.inl ⟨by kernel_rfl,fun wq hq=>by first|(go_simp;done)|rfl⟩) hS ?_;refine wpAnyH_ready (rs:=[21]) (by kernel_rfl) (by simp) ?_;refine AllReadyH.cons rfl (fun K hK=>?_) AllReadyH.nil;go_simp;refine hK.out _ _ (by exact⟨(World.cell?_setCell_far _ _ _ _ k1).trans hS.1,(World.cell?_setCell_far _ _ _ _ k2).trans hS.2.1,(World.cell?_setCell_far _ _ _ _ k2).trans hS.2.2⟩) (fun hS=>?_);clear hK K;refine wpAnyH_done (by kernel_rfl) ?_ _;refine HK1.out _ _ (Met.intro (HJ1.out _ _ ?_))
   (repeat apply Exists.intro)
   refine⟨?_,rfl⟩;rw[HWW.out];exact⟨by simpa using (((HBB.out.set_ 3 (.int .i64 (max s.need en))).set_ 4 (.int .i64 (max s.peak ep))).drew),(((Fr.refl (fun k=>k=P) _).setCell (p:=⟨P,3,none⟩) (.inl rfl) _).setCell (p:=⟨P,4,none⟩) (.inl rfl) _).drew⟩
  ·go_simp;refine hK.out _ _ hS (fun hS=>?_);clear hK K;refine wpAnyH_take (i:=15) (v:=.int .i64 (max s.peak ep)) rfl (by kernel_rfl) (by kernel_rfl) (by kernel_rfl) (fun _ _ _ h=>h) (Or.inl ⟨by kernel_rfl,fun wq hq=>by first|(go_simp;done)|rfl⟩) hS ?_;refine wpAnyH_ready (rs:=[5]) (by kernel_rfl) (by simp) ?_;refine AllReadyH.cons rfl (fun K hK=>?_) AllReadyH.nil;go_simp;refine hK.out _ _ (by exact hS) (fun hS=>?_);clear hK K;refine wpAnyH_take (i:=8) (v:=.int .i64 (max s.need en)) rfl (by kernel_rfl) (by kernel_rfl) (by kernel_rfl) (fun _ _ _ h=>h) (Or.inl ⟨by kernel_rfl,fun wq hq=>by first|(go_simp;done)|rfl⟩) hS ?_;refine wpAnyH_take (i:=16) (v:=.pointer (some ⟨P,0,none⟩)) rfl (by kernel_rfl) (by kernel_rfl) (by kernel_rfl) (fun _ _ _ h=>h) (Or.inl ⟨by kernel_rfl,fun wq hq=>by first|(go_simp;done)|rfl⟩) hS ?_;refine wpAnyH_take (i:=17) (v:=.pointer (some ⟨P,3,none⟩)) rfl (by kernel_rfl) (by kernel_rfl) (by kernel_rfl) (fun _ _ _ h=>h) (Or.inl ⟨by kernel_rfl,fun wq hq=>by first|(go_simp;done)|rfl⟩) hS ?_;refine wpAnyH_ready (rs:=[18]) (by kernel_rfl) (by simp) ?_;refine AllReadyH.cons rfl (fun K hK=>?_) AllReadyH.nil;go_simp;refine hK.out _ _ (by exact⟨(World.cell?_setCell_far _ _ _ _ k1).trans hS.1,(World.cell?_setCell_far _ _ _ _ k2).trans hS.2.1,(World.cell?_setCell_far _ _ _ _ k2).trans hS.2.2⟩) (fun hS=>?_);clear hK K
   refine wpAnyH_take (i:=19) (v:=.pointer (some ⟨P,0,none⟩)) rfl (by kernel_rfl) (by kernel_rfl) (by kernel_rfl) (fun _ _ _ h=>h) (Or.inl ⟨by kernel_rfl,fun wq hq=>by first|(go_simp;done)|rfl⟩) hS ?_;refine wpAnyH_take (i:=20) (v:=.pointer (some ⟨P,4,none⟩)) rfl (by kernel_rfl) (by kernel_rfl) (by kernel_rfl) (fun _ _ _ h=>h) (Or.inl ⟨by kernel_rfl,fun wq hq=>by first|(go_simp;done)|rfl⟩) hS ?_;refine wpAnyH_ready (rs:=[21]) (by kernel_rfl) (by simp) ?_;refine AllReadyH.cons rfl (fun K hK=>?_) AllReadyH.nil;go_simp;refine hK.out _ _ (by exact⟨(World.cell?_setCell_far _ _ _ _ k1).trans hS.1,(World.cell?_setCell_far _ _ _ _ k2).trans hS.2.1,(World.cell?_setCell_far _ _ _ _ k2).trans hS.2.2⟩) (fun hS=>?_);clear hK K;refine wpAnyH_done (by kernel_rfl) ?_ _;refine HK1.out _ _ (Met.intro (HJ1.out _ _ ?_))
   (repeat apply Exists.intro)
   refine⟨?_,rfl⟩;rw[HWW.out];exact⟨by simpa using (((HBB.out.set_ 3 (.int .i64 (max s.need en))).set_ 4 (.int .i64 (max s.peak ep))).drew),(((Fr.refl (fun k=>k=P) _).setCell (p:=⟨P,3,none⟩) (.inl rfl) _).setCell (p:=⟨P,4,none⟩) (.inl rfl) _).drew⟩
 case rest =>
  obtain⟨hP3,hfr⟩:=hcut;have hsz3:=hfr.size;simp only[World.size_alloc] at hsz3;have v0:Blk wc w.heap.size 193 #[.pointer (some ⟨P,0,none⟩)]:=hfr.blk (HV0.out.alloc _) (by omega);have v1:Blk wc (w.heap.size+1) 96 #[.int .i64 op,.int .i64 a]:=hfr.blk (HV1.out.alloc _) (by omega);have v9:Blk wc w2.heap.size 238 #[.int .i64 en,.int .i64 ep,.int .i64 eh,.int .i64 es]:=hfr.blk (Blk.new _ _ _) (by omega);have vG:Blk wc G 197 (Bv s.pl).toArray:=hfr.blk ((H.out.hG.below hbw2 hGl).alloc _) (fun e=>hPG e.symm);have vF:Reads wc B 4 Af m (Bk fs):=hfr.reads ((H.out.hF.below hbw2 H.out.hB).alloc (by have:=H.out.hB;omega) _) (by have:=H.out.hB;simp;omega) (fun k hk=>by have:=H.out.hBP;omega);have hfw:Fr (fun k=>k=P∨k=G) w wc:=((Fr.of_below hbw2 (fun k hk _=>hk)).alloc _).trans (hfr.mono (fun k _ e=>.inl e));have u0:wc.cell? ⟨w.heap.size,0,none⟩=some (.pointer (some ⟨P,0,none⟩)):=by rw[v0.cell];rfl
  have x0:wc.cell? ⟨w.heap.size+1,0,none⟩=some (.int .i64 op):=by rw[v1.cell];rfl
  have x1:wc.cell? ⟨w.heap.size+1,1,none⟩=some (.int .i64 a):=by rw[v1.cell];rfl
  have t0:wc.cell? ⟨w2.heap.size,0,none⟩=some (.int .i64 en):=by rw[v9.cell];rfl
  have t1:wc.cell? ⟨w2.heap.size,1,none⟩=some (.int .i64 ep):=by rw[v9.cell];rfl
  have t2:wc.cell? ⟨w2.heap.size,2,none⟩=some (.int .i64 eh):=by rw[v9.cell];rfl
  have t3:wc.cell? ⟨w2.heap.size,3,none⟩=some (.int .i64 es):=by rw[v9.cell];rfl
  have HP3:=Aa hP3;have HV0:=Aa v0;have HV1:=Aa v1;have HV9:=Aa v9;have HVG:=Aa vG;have HVF:=Aa vF;clear hP3 v0 v1 v9 vG vF hfr HBP hmx;go_wp2_with fail
  refine(Ox _ an op a en ep eh es _).mono ?_;rintro e w' ⟨rfl,rfl⟩;obtain⟨hj,hcl⟩:=Oe HAL.out;have hwr:=Sb ha0 ha1 hj;go_wp2_with fail
  refine(Mb (wc.heap.size+1+1+1+1) (wc.heap.size+1+1) wc.heap.size (wc.heap.size+1) (wc.heap.size+1+1+1) P G B op a an (max s.need en) (max s.peak ep) _ _ _ Af m cf (n+1) (n+1) fs s.pl eh es _ (Blk.new_at _ _ _ (by simp)) (((Blk.new_at _ _ _ (by simp)).alloc _).alloc _) (((((Blk.new_at _ _ _ (by simp)).alloc _).alloc _).alloc _).alloc _) ((((Blk.new_at _ _ _ (by simp)).alloc _).alloc _).alloc _) ((Blk.new_at _ _ _ (by simp)).alloc _) (by exact(((((HP3.out.alloc _).alloc _).alloc _).alloc _).alloc _))
   (by exact(((((HVF.out.alloc (by have:=H.out.hB;omega) _).alloc (by have:=H.out.hB;simp;omega) _).alloc (by have:=H.out.hB;simp;omega) _).alloc (by have:=H.out.hB;simp;omega) _).alloc (by have:=H.out.hB;simp;omega) _)) (by have:=H.out.hB;simp;omega) H.out.hm (by exact(((((HVG.out.alloc _).alloc _).alloc _).alloc _).alloc _)) H.out.hl (fun e=>hcl (by rw[e];rfl)) ha0 (by omega) (fun e=>by have:=hj e;omega) (fun t ht=>by have:=hwr t ht;omega) ⟨en,ep,eh,es⟩ rfl rfl).mono ?_
  rintro e w4 ⟨rfl,hb4⟩;have hb5:Below wc.heap.size wc w4:=Below.trans (by repeat (first|exact aliasBr|assumption|(refine Below.setCell ?_ (by first|omega|(simp;done)|(simp;omega)) _)|(refine Below.drew ?_)|(refine below_drewN ?_ _)|(refine Below.alloc ?_ (by first|omega|(simp;done)|(simp;omega)) _))) (hb4.mono (by first|omega|(simp;done)|(simp;omega)|(simp only[World.size_alloc,World.size_drew];omega)));have hlook:Bd.look n fs s an (op,a)=if Bd.reached fs s.pl (max s.need en) (max s.peak ep) an (op,a) ⟨en,ep,eh,es⟩≠0 then(Bd.reached fs s.pl (max s.need en) (max s.peak ep) an (op,a) ⟨en,ep,eh,es⟩,⟨s.pl,max s.need en,max s.peak ep⟩) else(0,⟨(Bd.ways an (op,a)).foldl (Bd.mark ⟨en,ep,eh,es⟩) s.pl,max s.need en,max s.peak ep⟩):=by
   unfold Bd.look;rw[if_neg (by rw[HALF.out];simp),HPAT.out,if_neg (by simp)];simp only;rw[HEE.out]
  have HLOOK:=Aa hlook;have hP4:=HP3.out.below hb5 HP3.out.lt;have hG4:=HVG.out.below hb5 HVG.out.lt;have hF4:=HVF.out.below hb5 (by have:=H.out.hB;omega);have v0:=HV0.out.below hb5 HV0.out.lt;have v1:=HV1.out.below hb5 HV1.out.lt;have v9:=HV9.out.below hb5 HV9.out.lt;have hsz4:=hb5.size;have hfw4:=hfw.trans (Fr.of_below (S:=fun k=>k=P∨k=G) hb5 (fun k hk _=>hk));clear hlook hb4 hb5 HP3 HVG HVF HV0 HV1 HV9 u0 x0 x1 t0 t1 t2 t3 hfw HPAT HALF HEE;generalize Bd.reached fs s.pl (max s.need en) (max s.peak ep) an (op,a) ⟨en,ep,eh,es⟩=r at *;have HP4:=Aa hP4;have HG4:=Aa hG4;have HF4:=Aa hF4;have HV9:=Aa v9;by_cases hr:r=0
  ·subst hr;have hlk:=HLOOK.out;rw[if_neg (by simp)] at hlk;have HLK:=Aa hlk;clear hlk HLOOK;have u0:w4.cell? ⟨w.heap.size,0,none⟩=some (.pointer (some ⟨P,0,none⟩)):=by rw[v0.cell];rfl
   have x0:w4.cell? ⟨w.heap.size+1,0,none⟩=some (.int .i64 op):=by rw[v1.cell];rfl
   have x1:w4.cell? ⟨w.heap.size+1,1,none⟩=some (.int .i64 a):=by rw[v1.cell];rfl
   have HV0:=Aa v0;clear hP4 hG4 hF4 v0 v1 v9;go_upto_region 12 with fail
   go_cut [66] from 13 to 65 (fun t66 wx=>t66=.func (.func 249) #[] #[.pointer (some ⟨w4.heap.size+1,0,none⟩),.pointer (some ⟨w4.heap.size,0,none⟩)]∧wx=(w4.alloc (.cells #[.int .i64 an] 3)).alloc (.cells #[.int .i64 op,.int .i64 a] 96))
   case first =>
    go_wp2_with fail
    refine(Qh an op a _).mono ?_;rintro e w' ⟨rfl,rfl⟩;go_wp2_with fail
    go_meet;exact⟨rfl,rfl⟩
   case rest =>
    obtain⟨rfl,hW0⟩:=hcut;have hs0:w4.heap.size+2≤wc.heap.size∧wc.heap.size≤w4.heap.size+2:=by rw[hW0];simp
    have hb0:Below w4.heap.size w4 wc:=by rw[hW0];exact(aliasBr.alloc Ad _).alloc (by simp) _
    have f0:Blk wc w.heap.size 193 #[.pointer (some ⟨P,0,none⟩)]:=HV0.out.below hb0 HV0.out.lt;have f9:=HV9.out.below hb0 HV9.out.lt;have fP:=HP4.out.below hb0 HP4.out.lt;have fG:=HG4.out.below hb0 HG4.out.lt;have fF:=HF4.out.below hb0 (by have:=H.out.hB;omega);have g4:Blk wc w4.heap.size 3 #[.int .i64 an]:=by rw[hW0];exact(Blk.new _ _ _).alloc _
    have g5:Blk wc (w4.heap.size+1) 96 #[.int .i64 op,.int .i64 a]:=by rw[hW0];exact Blk.new_at _ _ _ (by simp)
    have hfw5:=hfw4.trans (Fr.of_below (S:=fun k=>k=P∨k=G) hb0 (fun k hk _=>hk));have HW0:=Aa hW0;clear hW0 hb0 HV0 HV9 HP4 HG4 HF4 hfw4;go_wp2_with fail
    refine(wpIn_wide (n:=8)).1 ?_;refine wpIn_rangeFunc_ownG (α:=Way an (op,a)) rfl (by omega) (gf:=249) (lb:=#[.pointer (some ⟨w4.heap.size+1,0,none⟩),.pointer (some ⟨w4.heap.size,0,none⟩)]) rfl trivial (enters_of Tryz.func249 (by kernel_rfl) rfl)
     (Kn 7 (w4.heap.size+1) w4.heap.size an op a (by omega) wc (by rw[g5.cell];rfl) (by rw[g5.cell];rfl) (by rw[g4.cell];rfl) ha0 (by omega) (fun e=>by have:=hj e;omega)) Zay (fun W l o o' _ h1 h2 _=>Wx W l o o' h1 h2) aliasBr (fun _=>rfl)
     (fun pre W=>Blk W P 200 #[.slice Ac n cc,.slice Af m cf,.slice (some ⟨G,0,none⟩) (n+1) (n+1),.int .i64 (max s.need en),.int .i64 (max s.peak ep)]∧Blk W G 197 (Bv ((pre.map Subtype.val).foldl (Bd.mark ⟨en,ep,eh,es⟩) s.pl)).toArray∧Fr (fun k=>k=G) wc W)
     (fun _ _ _=>False)
     (fun pre W W' row hs hg hr=>⟨hs.1.own hg (fun r e=>(hr r e).2),hs.2.1.own hg (fun r e=>(hr r e).2),hs.2.2.grown hg (fun r e=>(hr r e).1)⟩)
     (fun _ _ _ _ _ hs _ _=>hs)
     ⟨fP,fG,Fr.refl _ _⟩
     (fun x => { tmps:=#[.pointer (some ⟨P,0,none⟩),.int .i64 an,.agg #[.int .i64 op,.int .i64 a],.pointer (some ⟨w.heap.size,0,none⟩),undef,.pointer (some ⟨w.heap.size+1,0,none⟩),.int .i64 0,.int .i64 0,.pointer (some ⟨w1.heap.size,0,none⟩),.pointer (some ⟨w2.heap.size,0,none⟩),.int .i64 0,.int .i64 x.1,undef,u13,u14,u15,u16,u17,u18,u19,u20,u21,u22,u23,u24,u25,u26,u27,u28,u29,u30,u31,u32,u33,u34,u35,u36,u37,u38,u39,u40,u41,u42,u43,u44,u45,u46,u47,u48,u49,u50,u51,u52,u53,u54,u55,u56,u57,u58,u59,u60,u61,u62,u63,u64,u65,.func (.func 249) #[] #[.pointer (some ⟨w4.heap.size+1,0,none⟩),.pointer (some ⟨w4.heap.size,0,none⟩)],.int .i64 x.1,undef,undef,undef,undef,undef,undef,undef,undef,undef,undef,undef,undef,undef,undef,undef,undef,undef,undef,undef,undef,undef,undef,undef,undef],defers:=[] }) ?assign ?body ?done ?stop
    case assign =>
     intro l x W K hK
     gi_wp2
     exact hK
    case body =>
     rintro l pre ⟨t,ht⟩ W ⟨iP,iG,iF⟩ _;obtain⟨t0,t1⟩:=hwr t ht;obtain⟨tn,rfl⟩:=Int.eq_ofNat_of_zero_le t0;generalize hpl:(pre.map Subtype.val).foldl (Bd.mark ⟨en,ep,eh,es⟩) s.pl=pl' at iG;have hll:pl'.length=n+1:=by rw[←hpl,Gj];exact H.out.hl
     obtain⟨q,hq⟩:∃ q,pl'[tn]?=some q:=⟨_,List.getElem?_eq_getElem (by omega)⟩;have hpat:Bd.pat pl' (tn:Int)=q:=by unfold Bd.pat;rw[List.getD_eq_getElem?_getD];simp[hq]
     obtain⟨g0,g1,g2⟩:=Es pl' tn q hq;have e0:W.cell? ⟨w.heap.size,0,none⟩=some (.pointer (some ⟨P,0,none⟩)):=by rw[(iF.blk f0 (by omega)).cell];rfl
     have eP:W.cell? ⟨P,2,none⟩=some (.slice (some ⟨G,0,none⟩) (n+1) (n+1)):=by rw[iP.cell];rfl
     have b9:=iF.blk f9 (by omega);have e2:W.cell? ⟨w2.heap.size,2,none⟩=some (.int .i64 eh):=by rw[b9.cell];rfl
     have e3:W.cell? ⟨w2.heap.size,3,none⟩=some (.int .i64 es):=by rw[b9.cell];rfl
     have d0:W.cell? ⟨G,tn*3,none⟩=some (.bool q.known):=by rw[iG.cell];simpa using g0
     have d1:W.cell? ⟨G,tn*3+1,none⟩=some (.int .i64 q.high):=by rw[iG.cell];simpa using g1
     have d2:W.cell? ⟨G,tn*3+2,none⟩=some (.int .i64 q.steps):=by rw[iG.cell];simpa using g2
     have fz0:W.frozen? ⟨G,tn*3,none⟩=false:=iG.frozen _;have fz1:W.frozen? ⟨G,tn*3+1,none⟩=false:=iG.frozen _;have fz2:W.frozen? ⟨G,tn*3+2,none⟩=false:=iG.frozen _;have htm:tn<n+1:=by omega
     have hmx:=Wq;have hne1:G≠w2.heap.size:=by omega
     have hne2:w2.heap.size≠G:=by omega
     have mixed:Tryz.prog.follows .mixedOrders=true:=by kernel_rfl
     have hwG:G<W.heap.size:=iG.lt;have hsW:=iF.size;obtain⟨qk,qh',qs'⟩:=q;simp only at d0 d1 d2;have HPL:=Aa hpl;have HPAT:=Aa hpat;have HIG:=Aa iG;have HIP:=Aa iP;have HIF:=Aa iF;clear p2 p3 p4 fp3 fp4 u0 x0 x1 hj hcl hwr fP fG fF f0 f9 g4 g5 b9 hpl hpat iG iP iF HV0 HV1 HW0 HP HAL hok hfs hfw5 heb hbw2 g0 g1 g2 hq y1 y2 y3 y4 y5 hs0
     gi_wp2_with fail
     refine Dl (fun w'=>w'.cell? ⟨w2.heap.size,3,none⟩=some (.int .i64 es)) (by kernel_rfl) (by kernel_rfl) (by rintro ⟨_,_,h⟩;exact h) (by simpa using e3) ?_;intro hS;refine wpAnyH_take (i:=0) (v:=.pointer (some ⟨G,tn*3,none⟩)) rfl (by kernel_rfl) (by kernel_rfl) (by kernel_rfl) (fun _ _ _ h=>h) (Or.inl ⟨by kernel_rfl,fun wq hq=>by first|(go_simp;done)|rfl⟩) hS ?_;refine wpAnyH_take (i:=1) (v:=.pointer (some ⟨G,tn*3,none⟩)) rfl (by kernel_rfl) (by kernel_rfl) (by kernel_rfl) (fun _ _ _ h=>h) (Or.inl ⟨by kernel_rfl,fun wq hq=>by first|(go_simp;done)|rfl⟩) hS ?_;refine wpAnyH_take (i:=2) (v:=.pointer (some ⟨G,tn*3,none⟩)) rfl (by kernel_rfl) (by kernel_rfl) (by kernel_rfl) (fun _ _ _ h=>h) (Or.inl ⟨by kernel_rfl,fun wq hq=>by first|(go_simp;done)|rfl⟩) hS ?_;refine wpAnyH_take (i:=3) (v:=.pointer (some ⟨G,tn*3+2,none⟩)) rfl (by kernel_rfl) (by kernel_rfl) (by kernel_rfl) (fun _ _ _ h=>h) (Or.inl ⟨by kernel_rfl,fun wq hq=>by first|(go_simp;done)|rfl⟩) hS ?_;refine wpAnyH_take (i:=5) (v:=.pointer (some ⟨w2.heap.size,3,none⟩)) rfl (by kernel_rfl) (by kernel_rfl) (by kernel_rfl) (fun _ _ _ h=>h) (Or.inl ⟨by kernel_rfl,fun wq hq=>by first|(go_simp;done)|rfl⟩) hS ?_;refine wpAnyH_take (i:=6) (v:=.int .i64 es) rfl (by kernel_rfl) (by kernel_rfl) (by kernel_rfl) (fun _ _ _ h=>h) (Or.inl ⟨by kernel_rfl,fun wq hq=>by first|(go_simp;done)|rfl⟩) hS ?_
     refine wpAnyH_ready (rs:=[4]) (by kernel_rfl) (by simp) ?_;refine AllReadyH.cons rfl (fun K hK=>?_) AllReadyH.nil;go_simp;refine hK.out _ _ (by exact hS) (fun hS=>?_);clear hK K;refine wpAnyH_take (i:=7) (v:=.int .i64 (max qs' es)) rfl (by kernel_rfl) (by kernel_rfl) (by kernel_rfl) (fun _ _ _ h=>h) (Or.inl ⟨by kernel_rfl,fun wq hq=>by first|(go_simp;done)|rfl⟩) hS ?_;refine wpAnyH_take (i:=8) (v:=.pointer (some ⟨G,tn*3,none⟩)) rfl (by kernel_rfl) (by kernel_rfl) (by kernel_rfl) (fun _ _ _ h=>h) (Or.inl ⟨by kernel_rfl,fun wq hq=>by first|(go_simp;done)|rfl⟩) hS ?_;refine wpAnyH_take (i:=9) (v:=.pointer (some ⟨G,tn*3+2,none⟩)) rfl (by kernel_rfl) (by kernel_rfl) (by kernel_rfl) (fun _ _ _ h=>h) (Or.inl ⟨by kernel_rfl,fun wq hq=>by first|(go_simp;done)|rfl⟩) hS ?_;refine wpAnyH_ready (rs:=[10]) (by kernel_rfl) (by simp) ?_;refine AllReadyH.cons rfl (fun K hK=>?_) AllReadyH.nil;go_simp;refine hK.out _ _ (by go_keep) (fun hS=>?_);clear hK K;refine wpAnyH_done (by kernel_rfl) ?_ _
     gi_wp2_with fail
     refine Dl (fun w'=>w'.cell? ⟨w2.heap.size,2,none⟩=some (.int .i64 eh)) (by kernel_rfl) (by kernel_rfl) (by rintro ⟨_,_,h⟩;exact h) (by clear hS;go_keep) ?_;clear hS;intro hS;refine wpAnyH_take (i:=0) (v:=.pointer (some ⟨G,tn*3,none⟩)) rfl (by kernel_rfl) (by kernel_rfl) (by kernel_rfl) (fun _ _ _ h=>h) (Or.inl ⟨by kernel_rfl,fun wq hq=>by first|(go_simp;done)|rfl⟩) hS ?_;refine wpAnyH_take (i:=1) (v:=.pointer (some ⟨G,tn*3,none⟩)) rfl (by kernel_rfl) (by kernel_rfl) (by kernel_rfl) (fun _ _ _ h=>h) (Or.inl ⟨by kernel_rfl,fun wq hq=>by first|(go_simp;done)|rfl⟩) hS ?_;refine wpAnyH_take (i:=2) (v:=.pointer (some ⟨w2.heap.size,2,none⟩)) rfl (by kernel_rfl) (by kernel_rfl) (by kernel_rfl) (fun _ _ _ h=>h) (Or.inl ⟨by kernel_rfl,fun wq hq=>by first|(go_simp;done)|rfl⟩) hS ?_;refine wpAnyH_take (i:=3) (v:=.int .i64 eh) rfl (by kernel_rfl) (by kernel_rfl) (by kernel_rfl) (fun _ _ _ h=>h) (Or.inl ⟨by kernel_rfl,fun wq hq=>by first|(go_simp;done)|rfl⟩) hS ?_;refine wpAnyH_take (i:=4) (v:=.pointer (some ⟨G,tn*3,none⟩)) rfl (by kernel_rfl) (by kernel_rfl) (by kernel_rfl) (fun _ _ _ h=>h) (Or.inl ⟨by kernel_rfl,fun wq hq=>by first|(go_simp;done)|rfl⟩) hS ?_;refine wpAnyH_take (i:=5) (v:=.pointer (some ⟨G,tn*3,none⟩)) rfl (by kernel_rfl) (by kernel_rfl) (by kernel_rfl) (fun _ _ _ h=>h) (Or.inl ⟨by kernel_rfl,fun wq hq=>by first|(go_simp;done)|rfl⟩) hS ?_
     refine wpAnyH_ready (rs:=[6]) (by kernel_rfl) (by simp) ?_;refine AllReadyH.cons rfl (fun K hK=>?_) AllReadyH.nil;go_simp;refine hK.out _ _ (by go_keep) (fun hS=>?_);clear hK K;refine wpAnyH_take (i:=7) (v:=.pointer (some ⟨G,tn*3,none⟩)) rfl (by kernel_rfl) (by kernel_rfl) (by kernel_rfl) (fun _ _ _ h=>h) (Or.inl ⟨by kernel_rfl,fun wq hq=>by first|(go_simp;done)|rfl⟩) hS ?_;refine wpAnyH_take (i:=8) (v:=.pointer (some ⟨G,tn*3+1,none⟩)) rfl (by kernel_rfl) (by kernel_rfl) (by kernel_rfl) (fun _ _ _ h=>h) (Or.inl ⟨by kernel_rfl,fun wq hq=>by first|(go_simp;done)|rfl⟩) hS ?_;refine wpAnyH_ready (rs:=[9]) (by kernel_rfl) (by simp) ?_;refine AllReadyH.cons rfl (fun K hK=>?_) AllReadyH.nil;go_simp;refine hK.out _ _ (by go_keep) (fun hS=>?_);clear hK K;refine wpAnyH_done (by kernel_rfl) ?_ _
     gi_wp2_with fail
     refine⟨?_,?_,?_,?_,?_⟩
     ·exact(((((KeepsOthers.setCell _ _ _).trans (KeepsOthers.setCell _ _ _)).trans (KeepsOthers.setCell _ _ _)).trans (KeepsOthers.drew _)).trans (KeepsOthers.drew _)).from _
     ·exact Re (Re (Zay (Zay (Pn _ _ _ (by simp only;omega) (by simp only;omega)) (Pn _ _ _ (by simp only;omega) (by simp only;omega))) (Pn _ _ _ (by simp only;omega) (by simp only;omega))))
     ·exact((((HIP.out.far (by exact hPG) _).far (by exact hPG) _).far (by exact hPG) _).drew).drew
     ·have h1:=(((((HIG.out.set_ (tn*3+2) (.int .i64 (max qs' es))).set_ (tn*3) (.bool true)).set_ (tn*3+1) (.int .i64 eh)).drew).drew);rw[Tf pl' tn (by omega) ⟨en,ep,eh,es⟩ ⟨qk,qh',qs'⟩ HPAT.out] at h1;rw[List.map_append,List.foldl_append,HPL.out];exact h1
     ·exact(((((HIF.out.setCell (.inl rfl) _).setCell (.inl rfl) _).setCell (.inl rfl) _).drew).drew)
    case done =>
     rintro D ys W hD hS ⟨iP,iG,iF⟩ hK;have HS:=Aa hS;clear hS;go_wp2;refine⟨by simp,.inl ⟨_,_,rfl,run_takeDeferred hK,?_⟩⟩;have hgr:=grownBy_putObj' W D (.deferred none);have hcl:∀ r,some D=some r→∃ o:Obj,W.heap[r]?=some o∧o.isCells=false:=fun r e=>by cases e;exact⟨_,hK,rfl⟩
     have hfin:=hfw5.trans ((iF.grown hgr (fun r e=>by cases e;exact hD)).mono (fun k _ e=>.inr e));rw[HLK.out];refine⟨_,results_tmp rfl _ _ _,⟨rfl,⟨iP.own hgr hcl,?_,?_,?_,H.out.hBP,H.out.hBG,H.out.hm,?_⟩,hfin⟩⟩
     ·rw[←HS.out];exact iG.own hgr hcl
     ·exact(iF.grown hgr (fun r e=>by cases e;exact hD)).reads fF (by have:=H.out.hB;omega) (fun k hk e=>by have:=H.out.hBG;omega)
     ·have:=hfin.size;have:=H.out.hB;omega
     ·rw[Gj];exact H.out.hl
    case stop =>
     rintro D c pre W _ _ h _;exact h.elim
  ·have hlk:=HLOOK.out;rw[if_pos hr] at hlk;have HLK:=Aa hlk;clear hlk HLOOK;have hrb:(r !=0)=true:=by simpa using hr
   clear hP4 hG4 hF4 v0 v1 v9;go_wp2;rw[HLK.out];refine⟨_,results_tmp rfl _ _ _,⟨rfl,⟨HP4.out,HG4.out,HF4.out,by have:=H.out.hB;omega,H.out.hBP,H.out.hBG,H.out.hm,H.out.hl⟩,hfw4⟩⟩
end Go.Proofs.YtnhebmgibiomnaaGreat
namespace Go.Proofs.YtnhebmgibiomnaaGreat
open Go.RowKit
theorem Zaw (P G B:Nat) (Ac Af:Option Addr) (n cc m cf:Nat) (fs:List Bd.Cost) (s:Bd.St) (at_ op a:Int) (w:World) (h:PfAt w P G B Ac Af n cc m cf fs s) (hok:Bd.Ok n s) (hfs:fs.all Bd.mayBe=true) (ha0:0≤at_) (ha1:at_<n) (hn:n≤1000000000000000) :
  Calls Tryz.prog 88 #[.pointer (some ⟨P,0,none⟩),.int .i64 at_,.agg #[.int .i64 op,.int .i64 a]] w (LookPost w P G B Ac Af n cc m cf fs (Bd.look n fs s at_ (op,a))):=by
 by_cases hal:Bd.always n fs.length at_ (op,a)=0
 ·cases hk:(Bd.pat s.pl at_).known with
  | false=>exact look_B P G B Ac Af n cc m cf fs s at_ op a w h ha0 ha1 hn hal hk
  | true=>exact look_C P G B Ac Af n cc m cf fs s at_ op a w h hok hfs ha0 ha1 hn hal hk
 ·exact look_A P G B Ac Af n cc m cf fs s at_ op a w h ha0 ha1 hn hal
theorem Zcb {P:Program} (t e:TypeId) (i:TypeInfo) (z:Value) (ht:P.underlying t=some (.slice e)) (hi:P.info? e=some i) (hz:i.zero=some z)
  (kl kc:IntKind) (n c:Nat) (hnc:n≤c) (hbytes:i.bytes*c≤281474976710656) (h63:c≤9223372036854775807) (w:World) :
  (Instr.makeSlice t (.int kl (n:Int)) (.int kc (c:Int))).run P w=.ok (.slice (some ⟨w.heap.size,0,none⟩) n c) (w.alloc (.cells (madeCells z.cells (c*i.size)) e)):=by
 have hb:(i.bytes:Int)*(c:Int)≤281474976710656:=by
  have h:((i.bytes*c:Nat):Int)≤281474976710656:=by omega
  rwa [Int.natCast_mul] at h
 have hr:=run_make (P:=P) w t e i z ht hi hz kl kc n c (by omega) (by omega) hb (by omega);simp only[Int.toNat_natCast] at hr;exact hr
theorem Tb:(Tryz.prog.info? 197).map (fun i=>(i.zero,i.size,i.bytes))=some (some (.agg #[.bool false,.int .i64 0,.int .i64 0]),3,24):=by kernel_rfl
theorem Pe (a b:List Bd.Place):Bv (a++b)=Bv a++Bv b:=by
 induction a with
 | nil=>rfl
 | cons p r ih=>simp[Bv,ih]
theorem Pm (n:Nat):madeCells #[Value.bool false,.int .i64 0,.int .i64 0] (n*3)=(Bv (List.replicate n ⟨false,0,0⟩)).toArray:=by
 unfold madeCells;apply Array.toList_inj.1;simp only[Array.toList_map,Array.toList_range]
 induction n with
 | zero=>rfl
 | succ n ih =>
  rw[List.replicate_succ',Pe,←ih,show (n+1)*3=n*3+1+1+1 by omega,List.range_succ,List.range_succ,List.range_succ];simp only[List.map_append,List.map_cons,List.map_nil,List.append_assoc,List.cons_append,List.nil_append,Bv];have e0:n*3 % 3=0:=by omega
  have e1:(n*3+1) % 3=1:=by omega
  have e2:(n*3+1+1) % 3=2:=by omega
  simp[e0,e1,e2]
theorem Qd (Ac Af:Option Addr) (n cc m cf:Nat) (w:World) (hn:n≤1000000000000) :
  Calls Tryz.prog 87 #[.slice Ac n cc,.slice Af m cf] w fun e w'=>e=.returned (.pointer (some ⟨w.heap.size+1,0,none⟩)) ∧
   (w.alloc (.cells (Bv (Bd.start n).pl).toArray 197)).alloc (.cells #[.slice Ac n cc,.slice Af m cf,.slice (some ⟨w.heap.size,0,none⟩) (n+1) (n+1),.int .i64 0,.int .i64 0] 200)=w':=by
 obtain⟨i0,hi,hz0,hz1,hz2⟩:=info_parts Tb;have hmk:=fun W=>Zcb (P:=Tryz.prog) 198 197 i0 _ Tryz.underlying198 hi hz0 .i64 .i64 (n+1) (n+1) Ad (by rw[hz2];omega) (by omega) W
 have ec:((n+1:Nat):Int)=(n:Int)+1:=by omega
 rw[ec,hz1,show (Value.agg #[.bool false,.int .i64 0,.int .i64 0]).cells = #[Value.bool false,.int .i64 0,.int .i64 0] from rfl,Pm] at hmk;obtain⟨mc,hmc⟩:∃ mc,mc=(Bv (List.replicate (n+1) ⟨false,0,0⟩)).toArray:=⟨_,rfl⟩;rw[←hmc] at hmk;have m0:mc[0]?=some (.bool false):=by rw[hmc];simp[List.replicate_succ,Bv]
 have hfin:mc.setIfInBounds 0 (.bool true)=(Bv (Bd.start n).pl).toArray:=by rw[hmc];simp[List.replicate_succ,Bv,Bd.start]
 have HF:=Aa hfin;clear hi hz0 hz1 hz2 ec hmc hfin;go_enter Tryz.func87,Tryz.ntmps87;go_wp2_with fail
 go_ret;refine⟨rfl,?_⟩;rw[←HF.out]
end Go.Proofs.YtnhebmgibiomnaaGreat
namespace Go.Proofs.YtnhebmgibiomnaaGreat
open Go.RowKit
def Qa (c:Bd.Cost):Value:=.agg #[.int .i64 c.need,.int .i64 c.delta,.int .i64 c.peak,.int .i64 c.steps]
def Zbs (w:World) (r:Bd.Cost×Int×Int) (e:Ending) (w':World):Prop:=e=.returned (.tuple #[Qa r.1,.int .i64 r.2.1,.int .i64 r.2.2])∧Below w.heap.size w w'
theorem Rr (Ac Af:Option Addr) (n cc m cf B:Nat) (l:List (Int×Int)) (fs:List Bd.Cost) (w:World) (hl:Reads w B 2 Ac n (Bg l)) (hF:Reads w B 4 Af m (Bk fs)) (hB:B≤w.heap.size) (hnl:n=l.length) (hm:m=fs.length) (hn:n≤1000000000000) (hm1:m≤1000000000000) :
  Calls Tryz.prog 63 #[.slice Ac n cc,.slice Af m cf] w (Zbs w (Bd.code l fs)):=by
 have HL:=Aa hl;have HFR:=Aa hF;have HNL:=Aa hnl;have HM:=Aa hm;clear hl hF hnl hm;go_enter Tryz.func63,Tryz.ntmps63;go_wp2_with fail
 go_loopw [16] (fun i wr=>∃ k:Nat,k≤m∧i=.int .i64 k∧(∀ c∈fs.take k,Bd.mayBe c=true)∧Below (w.heap.size+1) (w.alloc (.cells #[.int .i64 0,.int .i64 0,.int .i64 0,.int .i64 0] 78)) wr) (fun i _=>m-(intOf i).toNat)
 case atStart=>exact⟨0,by omega,rfl,by simp,aliasBr⟩
 case round =>
  obtain⟨k,hk,rfl,hall,hb⟩:=hrel;have HALL:=Aa hall;clear hall;have hsz:=hb.size;simp at hsz;have r0:wr.cell? ⟨w.heap.size,0,none⟩=some (.int .i64 0):=by rw[hb.cell (by simp)];simp[go_sem]
  have r1:wr.cell? ⟨w.heap.size,1,none⟩=some (.int .i64 0):=by rw[hb.cell (by simp)];simp[go_sem]
  have r2:wr.cell? ⟨w.heap.size,2,none⟩=some (.int .i64 0):=by rw[hb.cell (by simp)];simp[go_sem]
  have r3:wr.cell? ⟨w.heap.size,3,none⟩=some (.int .i64 0):=by rw[hb.cell (by simp)];simp[go_sem]
  by_cases hlt:k<m
  ·have hFr:Reads wr B 4 Af m (Bk fs):=(HFR.out.alloc hB _).below hb (by omega);obtain⟨c,hc⟩:∃ c,fs[k]?=some c:=⟨_,List.getElem?_eq_getElem (by have:=HM.out;omega)⟩;obtain⟨b,off,rfl,hbB,hcells⟩:=hFr.2 (by omega);obtain⟨g0,g1,g2,g3⟩:=Eh fs k c hc;have d0:=hcells _ _ g0;have d1:=hcells _ _ g1;have d2:=hcells _ _ g2;have d3:=hcells _ _ g3;rw[←Nat.add_assoc] at d1 d2 d3;have HC:=Aa hc;clear hcells g0 g1 g2 g3 hc hFr;obtain⟨cn,cd,cp,cs⟩:=c;simp only at d0 d1 d2 d3;go_wp2_with fail
   refine(Wp ⟨cn,cd,cp,cs⟩ _).mono ?_;rintro e w1 ⟨rfl,hb1⟩;have hb2:Below (w.heap.size+1) (w.alloc (.cells #[.int .i64 0,.int .i64 0,.int .i64 0,.int .i64 0] 78)) w1:=(hb.alloc (by omega) _).trans (hb1.mono (by simp;omega));cases hmb:Bd.mayBe ⟨cn,cd,cp,cs⟩ with
   | true =>
    have HMB:=Aa hmb;clear hmb;clear r0 r1 r2 r3 d0 d1 d2 d3 hb1;go_wp2;go_roundw
    case rel=>exact⟨k+1,by omega,by go_num,by
     intro c' hc';rw[List.take_add_one,HC.out] at hc';rcases List.mem_append.1 hc' with h|h
     ·exact HALL.out c' h
     ·simp at h;subst h;exact HMB.out,hb2⟩
    case measure=>simp[intOf];omega
   | false =>
    have hcode:Bd.code l fs=(⟨0,0,0,0⟩,0,1):=by
     unfold Bd.code;rw[if_neg];intro hh;have:=List.all_eq_true.1 hh _ (List.mem_of_getElem? HC.out);rw[hmb] at this;cases this
    have HCODE:=Aa hcode;have q0:w1.cell? ⟨w.heap.size,0,none⟩=some (.int .i64 0):=by rw[hb2.cell (by simp)];simp[go_sem]
    have q1:w1.cell? ⟨w.heap.size,1,none⟩=some (.int .i64 0):=by rw[hb2.cell (by simp)];simp[go_sem]
    have q2:w1.cell? ⟨w.heap.size,2,none⟩=some (.int .i64 0):=by rw[hb2.cell (by simp)];simp[go_sem]
    have q3:w1.cell? ⟨w.heap.size,3,none⟩=some (.int .i64 0):=by rw[hb2.cell (by simp)];simp[go_sem]
    have z:∀ o,w1.frozen? ⟨w.heap.size,o,none⟩=false:=fun o=>by rw[hb2.frozen (by simp)];simp[go_sem]
    clear hmb hcode r0 r1 r2 r3 d0 d1 d2 d3 hb1;go_wp2;refine bodyPost_ret (v:=.tuple #[.agg #[.int .i64 0,.int .i64 0,.int .i64 0,.int .i64 0],.int .i64 0,.int .i64 1]) (by simp[results,Tryz.results63,go_sem,q0,q1,q2,q3]) rfl ⟨by rw[HCODE.out];rfl,?_⟩;have hb3:Below w.heap.size w w1:=(aliasBr.alloc Ad _).trans (hb2.mono (by omega));exact((((hb3.setCell Ad _).setCell Ad _).setCell Ad _).setCell Ad _)
  ·obtain⟨wo,rfl⟩:∃ wo:World,wo=wr:=⟨_,rfl⟩;have hkm:k=m:=by omega
   have hmay:fs.all Bd.mayBe=true:=by
    rw[List.all_eq_true];intro c hc;have:=HALL.out c;rw[hkm,HM.out,List.take_length] at this;exact this hc
   have hcode:Bd.code l fs=Bd.rest l.length fs l 0 (Bd.start l.length):=by unfold Bd.code;rw[if_pos hmay]
   have HMAY:=Aa hmay;have HCODE:=Aa hcode;have HKM:=Aa hkm;clear hmay hcode hkm r0 r1 r2 r3;go_wp2_with fail
   refine(Qd Ac Af n cc m cf _ hn).mono ?_;rintro e w1 ⟨rfl,hw1⟩;have hb0:Below (w.heap.size+1) (w.alloc (.cells #[.int .i64 0,.int .i64 0,.int .i64 0,.int .i64 0] 78)) w1:=by rw[←hw1];exact(hb.alloc (by omega) _).alloc (by simp;omega) _
   have hpf:PfAt w1 (wo.heap.size+1) wo.heap.size B Ac Af n cc m cf fs (Bd.start n):=by
    refine⟨?_,?_,(HFR.out.alloc hB _).below hb0 (by omega),by have:=hb0.size;simp at this;omega,by omega,by omega,HM.out,by simp[Bd.start]⟩
    ·rw[←hw1];exact Blk.new_at _ _ _ (by simp)
    ·rw[←hw1];exact(Blk.new _ _ _).alloc _
   have HPF:=Aa hpf;have HCODE2:=Aa (show Bd.code l fs=Bd.rest n fs (l.drop 0) ((0:Nat):Int) (Bd.start n) by rw[HCODE.out,HNL.out];rfl);clear hw1 hpf HCODE;go_wp2_with fail
   go_loopw [30] (fun i w2=>∃ (k:Nat) (st:Bd.St),k≤n∧i=.int .i64 k∧PfAt w2 (wo.heap.size+1) wo.heap.size B Ac Af n cc m cf fs st∧Bd.Ok n st∧Bd.code l fs=Bd.rest n fs (l.drop k) k st∧Below (w.heap.size+1) (w.alloc (.cells #[.int .i64 0,.int .i64 0,.int .i64 0,.int .i64 0] 78)) w2) (fun i _=>n-(intOf i).toNat)
   case atStart=>exact⟨0,_,by omega,rfl,HPF.out,Bd.start_ok n,HCODE2.out,hb0⟩
   case round =>
    clear HPF HCODE2 hb0 HALL;obtain⟨j,st,hj,rfl,hpf,hok,hrest,hb2⟩:=hrel;have HREST:=Aa hrest;have HOK:=Aa hok;have HPF:=Aa hpf;have hsz2:=hb2.size;simp at hsz2;clear hrest hok hpf;by_cases hjn:j<n
    ·have hLr:Reads wr B 2 Ac n (Bg l):=(HL.out.alloc hB _).below hb2 (by omega);obtain⟨x,hx⟩:∃ x,l[j]?=some x:=⟨_,List.getElem?_eq_getElem (by have:=HNL.out;omega)⟩;obtain⟨b,off,rfl,hbB,hcells⟩:=hLr.2 (by omega);obtain⟨g0,g1⟩:=Pq l j x hx;have d0:=hcells _ _ g0;have d1:=hcells _ _ g1;rw[←Nat.add_assoc] at d1;have hdrop:l.drop j=x::l.drop (j+1):=by
      have hjl:j<l.length:=by have:=HNL.out;omega
      rw[List.drop_eq_getElem_cons hjl];rw[List.getElem?_eq_getElem hjl] at hx
      injection hx with hx
      rw[hx]
     have HDROP:=Aa hdrop;clear hcells g0 g1 hx hLr hdrop;obtain⟨op,a⟩:=x;simp only at d0 d1;go_wp2_with fail
     refine(Zaw (wo.heap.size+1) wo.heap.size B (some ⟨b,off,none⟩) Af n cc m cf fs st j op a _ (by exact HPF.out.below (aliasBr.alloc Ad _)) HOK.out HMAY.out (by omega) (by omega) (by omega)).mono ?_;rintro e w3 ⟨rfl,hpf3,hfr3⟩;have hb3:Below (w.heap.size+1) (w.alloc (.cells #[.int .i64 0,.int .i64 0,.int .i64 0,.int .i64 0] 78)) w3:=(hb2.alloc (by omega) _).trans (hfr3.below (by simp;omega) (fun k hk=>by omega));have HPF3:=Aa hpf3;clear d0 d1 hpf3 hfr3 HPF;by_cases hr:(Bd.look n fs st j (op,a)).1=0
     ·have hok3:=Bd.look_ok HMAY.out HOK.out hr;have HOK3:=Aa hok3;have hrest3:Bd.code l fs=Bd.rest n fs (l.drop (j+1)) ((j+1:Nat):Int) (Bd.look n fs st j (op,a)).2:=by
       rw[HREST.out,HDROP.out,Bd.rest,if_neg (by rw[hr];simp)];rw[show ((j+1:Nat):Int)=(j:Int)+1 by omega]
      have HREST3:=Aa hrest3;rw[hr];generalize Bd.look n fs st j (op,a)=rr at *;clear hr hok3 hrest3 HREST HOK HDROP;go_wp2;go_roundw
      case rel=>exact⟨j+1,rr.2,by omega,by go_num,HPF3.out,HOK3.out,HREST3.out,hb3⟩
      case measure=>simp[intOf];omega
     ·have hrest3:Bd.code l fs=(⟨0,0,0,0⟩,(j:Int),(Bd.look n fs st j (op,a)).1):=by
       rw[HREST.out,HDROP.out,Bd.rest,if_pos hr]
      have HREST3:=Aa hrest3;have hrb:((Bd.look n fs st j (op,a)).1 !=0)=true:=by simpa using hr
      generalize (Bd.look n fs st j (op,a)).1=rr at *;have q0:w3.cell? ⟨w.heap.size,0,none⟩=some (.int .i64 0):=by rw[hb3.cell (by simp)];simp[go_sem]
      have q1:w3.cell? ⟨w.heap.size,1,none⟩=some (.int .i64 0):=by rw[hb3.cell (by simp)];simp[go_sem]
      have q2:w3.cell? ⟨w.heap.size,2,none⟩=some (.int .i64 0):=by rw[hb3.cell (by simp)];simp[go_sem]
      have q3:w3.cell? ⟨w.heap.size,3,none⟩=some (.int .i64 0):=by rw[hb3.cell (by simp)];simp[go_sem]
      have z:∀ o,w3.frozen? ⟨w.heap.size,o,none⟩=false:=fun o=>by rw[hb3.frozen (by simp)];simp[go_sem]
      clear hr hrest3 HREST HOK HDROP HPF3;go_wp2;refine bodyPost_ret (v:=.tuple #[.agg #[.int .i64 0,.int .i64 0,.int .i64 0,.int .i64 0],.int .i64 j,.int .i64 rr]) (by simp[results,Tryz.results63,go_sem,q0,q1,q2,q3]) rfl ⟨by rw[HREST3.out];rfl,?_⟩;have hb4:Below w.heap.size w w3:=(aliasBr.alloc Ad _).trans (hb3.mono (by omega));exact((((hb4.setCell Ad _).setCell Ad _).setCell Ad _).setCell Ad _)
    ·have hjn2:j=n:=by omega
     have hlen:=HPF.out.hl;obtain⟨q,hq⟩:∃ q,st.pl[n]?=some q:=⟨_,List.getElem?_eq_getElem (by omega)⟩;have hpat:Bd.pat st.pl (n:Int)=q:=by unfold Bd.pat;rw[List.getD_eq_getElem?_getD];simp[hq]
     have hrest3:Bd.code l fs=(⟨st.need,q.high,st.peak,q.steps⟩,0,0):=by
      have hd:l.drop j=[]:=List.drop_eq_nil_of_le (by have:=HNL.out;omega);rw[HREST.out,hd,Bd.rest,hjn2,hpat]
     have HREST3:=Aa hrest3;obtain⟨g0,g1,g2⟩:=Es st.pl n q hq;have u2:wr.cell? ⟨wo.heap.size+1,2,none⟩=some (.slice (some ⟨wo.heap.size,0,none⟩) (n+1) (n+1)):=by rw[HPF.out.hP.cell];rfl
     have u3:wr.cell? ⟨wo.heap.size+1,3,none⟩=some (.int .i64 st.need):=by rw[HPF.out.hP.cell];rfl
     have u4:wr.cell? ⟨wo.heap.size+1,4,none⟩=some (.int .i64 st.peak):=by rw[HPF.out.hP.cell];rfl
     have d0:wr.cell? ⟨wo.heap.size,n*3,none⟩=some (.bool q.known):=by rw[HPF.out.hG.cell];simpa using g0
     have d1:wr.cell? ⟨wo.heap.size,n*3+1,none⟩=some (.int .i64 q.high):=by rw[HPF.out.hG.cell];simpa using g1
     have d2:wr.cell? ⟨wo.heap.size,n*3+2,none⟩=some (.int .i64 q.steps):=by rw[HPF.out.hG.cell];simpa using g2
     have q0:wr.cell? ⟨w.heap.size,0,none⟩=some (.int .i64 0):=by rw[hb2.cell (by simp)];simp[go_sem]
     have q1:wr.cell? ⟨w.heap.size,1,none⟩=some (.int .i64 0):=by rw[hb2.cell (by simp)];simp[go_sem]
     have q2:wr.cell? ⟨w.heap.size,2,none⟩=some (.int .i64 0):=by rw[hb2.cell (by simp)];simp[go_sem]
     have q3:wr.cell? ⟨w.heap.size,3,none⟩=some (.int .i64 0):=by rw[hb2.cell (by simp)];simp[go_sem]
     have z:∀ o,wr.frozen? ⟨w.heap.size,o,none⟩=false:=fun o=>by rw[hb2.frozen (by simp)];simp[go_sem]
     have y1:wo.heap.size+1<wr.heap.size:=HPF.out.hP.lt;have y2:wo.heap.size<wr.heap.size:=by omega
     have y3:w.heap.size<wr.heap.size:=by omega
     have y4:wo.heap.size+1≠w.heap.size:=by omega
     have y5:w.heap.size≠wo.heap.size+1:=by omega
     have y6:wr.heap.size≠w.heap.size:=by omega
     have y7:w.heap.size≠wr.heap.size:=by omega
     obtain⟨qk,qh,qs⟩:=q;simp only at d0 d1 d2 HREST3;have HJ:=Aa hjn2;clear hrest3 HREST HOK HPF hq hpat g0 g1 g2 hlen hjn2;go_wp2_with fail
     go_region_held3 (fun w'=>w'.cell? ⟨wo.heap.size+1,3,none⟩=some (.int .i64 st.need)∧w'.cell? ⟨wo.heap.size+1,4,none⟩=some (.int .i64 st.peak)∧w'.cell? ⟨wr.heap.size,1,none⟩=some (.int .i64 qh)∧w'.cell? ⟨wr.heap.size,2,none⟩=some (.int .i64 qs)) (first|(go_keep;done)|(refine⟨?_,?_,?_,?_⟩ <;> first|(go_keep;done)|(simp[go_sem];done))) (first|fail);go_wp2;refine bodyPost_ret (v:=.tuple #[.agg #[.int .i64 st.need,.int .i64 qh,.int .i64 st.peak,.int .i64 qs],.int .i64 0,.int .i64 0]) (by simp[results,Tryz.results63,go_sem,q0,q1,q2,q3,y3]) rfl ⟨by rw[HREST3.out];rfl,?_⟩;have hb4:Below w.heap.size w wr:=(aliasBr.alloc Ad _).trans (hb2.mono (by omega));exact((((((hb4.setCell Ad _).setCell Ad _).setCell Ad _).setCell Ad _).alloc (by simp[World.setCell];omega) _).drew)
end Go.Proofs.YtnhebmgibiomnaaGreat
namespace Go.Proofs.YtnhebmgibiomnaaGreat
open Go.RowKit
def Oh (w:World) (r:List Bd.Cost×Int×Int) (e:Ending) (w':World):Prop :=
 ∃ A c,e=.returned (.tuple #[.slice A r.1.length c,.int .i64 r.2.1,.int .i64 r.2.2])∧Reads w' w'.heap.size 4 A r.1.length (Bk r.1)∧Below w.heap.size w w'
theorem Yc:(Tryz.prog.info? 78).map (fun i=>(i.zero,i.size,i.bytes))=some (some (.agg #[.int .i64 0,.int .i64 0,.int .i64 0,.int .i64 0]),4,32):=by kernel_rfl
theorem Me (a b:List Bd.Cost):Bk (a++b)=Bk a++Bk b:=by
 induction a with
 | nil=>rfl
 | cons p r ih=>simp[Bk,ih]
theorem Dq {w:World} {base:Nat} {e:TypeId} {size n:Nat} {v:Value} {xs:List Value} (h:w.ownsRow base e size v n xs):∃ A c,v=.slice A n c∧Reads w w.heap.size size A n xs:=by
 rcases h.2 with⟨rfl,rfl⟩|⟨g,cap,cur,rfl,_⟩
 ·exact⟨none,0,rfl,Reads.of_own (c:=0) h⟩
 ·exact⟨_,cap,rfl,Reads.of_own h⟩
theorem Tv (A:Option Addr) (n c:Nat) (w:World) (hn:20<n) :
  Calls Tryz.prog 33 #[.slice A n c] w fun e w'=>e=.returned (.tuple #[.slice none 0 0,.int .i64 20,.int .i64 2])∧w=w':=by
 have h:(20:Int)<n:=by omega
 go_enter Tryz.func33,Tryz.ntmps33;go_wp2;go_ret3;exact⟨rfl,rfl⟩
theorem Xq (A:Option Addr) (c B:Nat) (ll:List (List (Int×Int))) (w:World) (hR:RowsAt w B A ll) (hB:B≤w.heap.size) (hn:ll.length≤20) (hlen:∀ l∈ll,l.length≤1000000000000) :
  Calls Tryz.prog 33 #[.slice A ll.length c] w (Oh w (Bd.funcsGo ll 0 [])):=by
 obtain⟨i0,hi,hz0,hz1,hz2⟩:=info_parts Yc;obtain⟨n,hnn⟩:∃ n,n=ll.length:=⟨_,rfl⟩;rw[←hnn] at hn ⊢;have hmk:=fun W=>Zcb (P:=Tryz.prog) 81 78 i0 _ Tryz.underlying81 hi hz0 .i64 .i64 0 n (Nat.zero_le _) (by rw[hz2];omega) (by omega) W
 rw[hz1,show ((0:Nat):Int)=0 from rfl] at hmk;have HN:=Aa hnn;have HR:=Aa hR;have HLEN:=Aa hlen;have h20:¬ (20:Int)<n:=by omega
 clear hnn hR hlen;go_enter Tryz.func33,Tryz.ntmps33;go_wp2_with fail
 go_loopw [5,19] (fun v i wr=>∃ (k:Nat) (cs:List Bd.Cost),k≤n∧i=.int .i64 k∧cs.length=k∧wr.ownsRow w.heap.size 78 4 v cs.length (Bk cs)∧Bd.funcsGo (ll.drop k) k cs=Bd.funcsGo ll 0 []∧Below w.heap.size w wr) (fun _ i _=>n-(intOf i).toNat)
 case atStart =>
  refine⟨0,[],by omega,rfl,rfl,⟨rfl,.inr ⟨w.heap.size,n,_,rfl,Ad,heap_alloc_new w _,by simp,by unfold maxLen;omega,size_madeCells _ _,by simp[Bk]⟩⟩,by simp,aliasBr.alloc Ad _⟩
 case round =>
  obtain⟨k,cs,hk,rfl,hcl,hown,hgo,hb⟩:=hrel;obtain⟨A',c',rfl,hrd⟩:=Dq hown;have HOWN:=Aa hown;have HGO:=Aa hgo;have HCL:=Aa hcl;have hsz:=hb.size;have hck:cs.length≤k∧k≤cs.length:=by omega
  clear hown hgo hcl;by_cases hlt:k<n
  ·obtain⟨l,hl⟩:∃ l,ll[k]?=some l:=⟨_,List.getElem?_eq_getElem (by have:=HN.out;omega)⟩;have hRw:=HR.out.below hb hB;obtain⟨vs,hvs,hin⟩:=hRw;obtain⟨v,hv,Al,cl,rfl,hlr⟩:=hin k l hl;obtain⟨b,off,rfl,hbB,hcells⟩:=hvs.2 (by have:=HN.out;omega);have d0:=hcells _ _ hv;have hdrop:ll.drop k=l::ll.drop (k+1):=by
    have hjl:k<ll.length:=by have:=HN.out;omega
    rw[List.drop_eq_getElem_cons hjl];rw[List.getElem?_eq_getElem hjl] at hl;rw[Option.some.inj hl]
   have HDROP:=Aa hdrop;have hll:=HLEN.out l (List.mem_of_getElem? hl);have HLR:=Aa hlr;have HRD:=Aa hrd;clear hcells hin hvs hv hl hdrop hlr hrd;go_wp2_with fail
   refine(Rr Al A' l.length cl cs.length c' wr.heap.size l cs _ (HLR.out.more (by omega)) HRD.out Ad rfl rfl hll (by omega)).mono ?_;rintro e w1 ⟨rfl,hb1⟩;clear hll hmk;simp only[Qa];have hb2:Below w.heap.size w w1:=hb.trans (hb1.mono hsz);by_cases hr:(Bd.code l cs).2.2=0
   ·have hgo2:Bd.funcsGo (ll.drop (k+1)) ((k+1:Nat):Int) (cs++[(Bd.code l cs).1])=Bd.funcsGo ll 0 []:=by
     have h0:=HGO.out;rw[HDROP.out,Bd.funcsGo,if_neg (by rw[hr];simp)] at h0;rw[←h0,show ((k+1:Nat):Int)=(k:Int)+1 by omega]
    have HGO2:=Aa hgo2;rw[hr];have hown1:=Dp HOWN.out hb1 Ad;have HOWN1:=Aa hown1;generalize (Bd.code l cs).1=cc at *;obtain⟨c0,c1,c2,c3⟩:=cc;clear hr hgo2 HDROP HGO hown1 d0;have z1:=hb1.size;have hown2:((w1.alloc (.cells #[.int .i64 c0,.int .i64 c1,.int .i64 c2,.int .i64 c3] 78)).alloc (.cells #[.int .i64 c0,.int .i64 c1,.int .i64 c2,.int .i64 c3] 78)).ownsRow w.heap.size 78 4 (.slice A' cs.length c') cs.length (Bk cs):=Dp HOWN1.out ((aliasBr.alloc Ad _).alloc (by simp) _) Ad;have HOWN2:=Aa hown2;have hrs:=Reads.one_new (w1.alloc (.cells #[.int .i64 c0,.int .i64 c1,.int .i64 c2,.int .i64 c3] 78)) 78 [.int .i64 c0,.int .i64 c1,.int .i64 c2,.int .i64 c3];simp only[World.size_alloc] at hrs;have HRS:=Aa hrs;clear hown2 hrs;go_wp2_with (at_builtin;refine Br _ rfl (.tmp 35) (.tmp 37) _ rfl w.heap.size 78 i0 _ 4 32 Tryz.underlying81 hi hz0 hz1 hz2 rfl (by omega) (.slice A' cs.length c') cs.length (Bk cs) rfl HOWN2.out (w1.heap.size+1+1) (some ⟨w1.heap.size+1,0,none⟩) 1 1 [.int .i64 c0,.int .i64 c1,.int .i64 c2,.int .i64 c3] rfl HRS.out (by simp[Value.oneCell']) (by unfold maxLen;omega) (by omega) (by simp;omega) ?_;intro v' w2 hown3 hg3 hat3)
    refine⟨⟨k+1,cs++[⟨c0,c1,c2,c3⟩],by omega,by go_num,by simp;omega,?_,HGO2.out,?_⟩,by simp[intOf];omega⟩
    ·rw[List.length_append,Me];exact hown3
    ·refine Below.grown (((hb2.alloc (by omega) _).alloc (by simp;omega) _)) hg3 (by simp;omega) ?_;intro g hg;rcases HOWN1.out.2 with⟨h,_⟩|⟨g',_,_,h,hle,_⟩
     ·rw[h] at hg;simp[Value.ownBlock] at hg
     ·rw[h] at hg;simp[Value.ownBlock] at hg;omega
   ·have hgo2:Bd.funcsGo ll 0 []=([],(k:Int),(Bd.code l cs).2.2):=by
     rw[←HGO.out,HDROP.out,Bd.funcsGo,if_pos hr]
    have HGO2:=Aa hgo2;have hrb:((Bd.code l cs).2.2 !=0)=true:=by simpa using hr
    generalize (Bd.code l cs).2.2=rr at *;generalize (Bd.code l cs).2.1=ra at *;generalize (Bd.code l cs).1=cc at *;obtain⟨c0,c1,c2,c3⟩:=cc;clear hr hgo2 HDROP HGO d0;go_wp2;go_ret3;refine⟨none,0,by rw[HGO2.out];rfl,?_,hb2.alloc (by have:=hb1.size;omega) _⟩;rw[HGO2.out];exact Reads.none_
  ·have hkn:k=n:=by omega
   have hgo2:Bd.funcsGo ll 0 []=(cs,0,0):=by
    have h0:=HGO.out;rw[List.drop_eq_nil_of_le (by have:=HN.out;omega),Bd.funcsGo] at h0;exact h0.symm
   have HGO2:=Aa hgo2;have HKN:=Aa hkn;have HRD:=Aa hrd;clear hkn hgo2 HGO hrd hmk;go_wp2;go_ret3;refine⟨A',c',by rw[HGO2.out];rfl,?_,hb⟩;rw[HGO2.out];exact HRD.out
theorem No (A:Option Addr) (c B:Nat) (ll:List (List (Int×Int))) (w:World) (hR:RowsAt w B A ll) (hB:B≤w.heap.size) (hlen:∀ l∈ll,l.length≤1000000000000) :
  Calls Tryz.prog 33 #[.slice A ll.length c] w (Oh w (Bd.funcs ll)):=by
 by_cases h:ll.length>20
 ·have e:Bd.funcs ll=([],20,2):=by unfold Bd.funcs;rw[if_pos h]
  rw[e];refine(Tv A ll.length c w h).mono ?_;rintro e w' ⟨rfl,rfl⟩;exact⟨none,0,rfl,Reads.none_,aliasBr⟩
 ·have e:Bd.funcs ll=Bd.funcsGo ll 0 []:=by unfold Bd.funcs;rw[if_neg h]
  rw[e];exact Xq A c B ll w hR hB (by omega) hlen
end Go.Proofs.YtnhebmgibiomnaaGreat
namespace Go.Proofs.YtnhebmgibiomnaaGreat
open Go.RowKit
def Og (w:World) (r:Bd.Cost×Int) (e:Ending) (w':World):Prop:=e=.returned (.tuple #[Qa r.1,.int .i64 r.2])∧Below w.heap.size w w'
theorem Uk (Ac Af:Option Addr) (cc cf B:Nat) (l:List (Int×Int)) (fs:List Bd.Cost) (w:World) (hl:Reads w B 2 Ac l.length (Bg l)) (hF:Reads w B 4 Af fs.length (Bk fs)) (hB:B≤w.heap.size) (hn:l.length≤1000000000000) (hm1:fs.length≤1000000000000) :
  Calls Tryz.prog 62 #[.slice Ac l.length cc,.slice Af fs.length cf] w (Og w (Bd.whole l fs)):=by
 obtain⟨r,hr⟩:∃ r,r=Bd.code l fs:=⟨_,rfl⟩;have hwh:Bd.whole l fs=if r.2.2≠0 then(⟨0,0,0,0⟩,r.2.2) else if r.1.need>0 then(⟨0,0,0,0⟩,51) else(r.1,0):=by unfold Bd.whole;rw[hr]
 have HC:=Aa (fun W h1 h2=>Rr Ac Af l.length cc fs.length cf B l fs W h1 h2);rw[←hr] at HC;obtain⟨⟨c0,c1,c2,c3⟩,ra,rr⟩:=r;simp only at hwh;have HWH:=Aa hwh;have HL:=Aa hl;have HF:=Aa hF;have HN:=Aa hn;have HM:=Aa hm1;clear hwh hr hl hF hn hm1;generalize l.length=n at *;generalize fs.length=m at *;go_enter Tryz.func62,Tryz.ntmps62;go_wp2_with fail
 refine(HC.out _ (by exact HL.out.alloc hB _) (by exact HF.out.alloc hB _) (by simp;omega) trivial trivial HN.out HM.out).mono ?_;rintro e w1 ⟨rfl,hb1⟩;simp only[Qa];have hbw:Below w.heap.size w w1:=(aliasBr.alloc Ad _).trans (hb1.mono (by simp));have hz:=hb1.size;simp at hz;have q0:w1.cell? ⟨w.heap.size,0,none⟩=some (.int .i64 0):=by rw[hb1.cell (by simp)];simp[go_sem]
 have q1:w1.cell? ⟨w.heap.size,1,none⟩=some (.int .i64 0):=by rw[hb1.cell (by simp)];simp[go_sem]
 have q2:w1.cell? ⟨w.heap.size,2,none⟩=some (.int .i64 0):=by rw[hb1.cell (by simp)];simp[go_sem]
 have q3:w1.cell? ⟨w.heap.size,3,none⟩=some (.int .i64 0):=by rw[hb1.cell (by simp)];simp[go_sem]
 have z:∀ o,w1.frozen? ⟨w.heap.size,o,none⟩=false:=fun o=>by rw[hb1.frozen (by simp)];simp[go_sem]
 have y3:w.heap.size<w1.heap.size:=by omega
 clear hb1;by_cases he:rr=0
 ·subst he;by_cases hn:0<c0
  ·have hwh:=HWH.out;rw[if_neg (by simp),if_pos hn] at hwh;have HWH2:=Aa hwh;clear hwh HWH;go_wp2;refine bodyPost_ret (v:=.tuple #[.agg #[.int .i64 0,.int .i64 0,.int .i64 0,.int .i64 0],.int .i64 51]) (by simp[results,Tryz.results62,go_sem,q0,q1,q2,q3,y3]) rfl ⟨by rw[HWH2.out];rfl,(by repeat (first|exact aliasBr|assumption|(refine Below.setCell ?_ (by first|omega|(simp;done)|(simp;omega)) _)|(refine Below.drew ?_)|(refine below_drewN ?_ _)|(refine Below.alloc ?_ (by first|omega|(simp;done)|(simp;omega)) _)))⟩
  ·have hwh:=HWH.out;rw[if_neg (by simp),if_neg hn] at hwh;have HWH2:=Aa hwh;clear hwh HWH;go_wp2;refine bodyPost_ret (v:=.tuple #[.agg #[.int .i64 c0,.int .i64 c1,.int .i64 c2,.int .i64 c3],.int .i64 0]) (by simp[results,Tryz.results62,go_sem,q0,q1,q2,q3,y3]) rfl ⟨by rw[HWH2.out];rfl,(by repeat (first|exact aliasBr|assumption|(refine Below.setCell ?_ (by first|omega|(simp;done)|(simp;omega)) _)|(refine Below.drew ?_)|(refine below_drewN ?_ _)|(refine Below.alloc ?_ (by first|omega|(simp;done)|(simp;omega)) _)))⟩
 ·have hwh:=HWH.out;rw[if_pos he] at hwh;have HWH2:=Aa hwh;have h1:(rr==0)=false:=by simpa using he
  have h2:(rr !=0)=true:=by simpa using he
  clear hwh HWH he;go_wp2;refine bodyPost_ret (v:=.tuple #[.agg #[.int .i64 0,.int .i64 0,.int .i64 0,.int .i64 0],.int .i64 rr]) (by simp[results,Tryz.results62,go_sem,q0,q1,q2,q3,y3]) rfl ⟨by rw[HWH2.out];rfl,(by repeat (first|exact aliasBr|assumption|(refine Below.setCell ?_ (by first|omega|(simp;done)|(simp;omega)) _)|(refine Below.drew ?_)|(refine below_drewN ?_ _)|(refine Below.alloc ?_ (by first|omega|(simp;done)|(simp;omega)) _)))⟩
theorem Jf (A Am:Option Addr) (c cm B:Nat) (cvt:Value) (size:Int) (ll:List (List (Int×Int))) (l:List (Int×Int)) (w:World) (hcv:∃ a n k,cvt=.slice a n k) (hR:RowsAt w B A ll) (hl:Reads w B 2 Am l.length (Bg l)) (hB:B≤w.heap.size) (hlen:∀ l∈ll,l.length≤1000000000000) (hn:l.length≤1000000000000) :
  Calls Tryz.prog 32 #[.agg #[.slice A ll.length c,.slice Am l.length cm,cvt,.int .i64 size]] w (Og w (Bd.program ll l)):=by
 obtain⟨ca,cn,ck,rfl⟩:=hcv;have hfl:=Bd.funcs_len ll;obtain⟨r,hr⟩:∃ r,r=Bd.funcs ll:=⟨_,rfl⟩;have hpr:Bd.program ll l=if r.2.2≠0 then(⟨0,0,0,0⟩,r.2.2) else Bd.whole l r.1:=by unfold Bd.program;rw[hr]
 rw[←hr] at hfl;have HFU:=Aa (fun W h=>No A c B ll W h);rw[←hr] at HFU;obtain⟨cs,ra,rr⟩:=r;simp only at hpr hfl;have HPR:=Aa hpr;have HR:=Aa hR;have HL:=Aa hl;have HLEN:=Aa hlen;have HN:=Aa hn;clear hpr hr hR hl hlen hn;have HWH:=Aa (fun Af cf B' W h1 h2 h3=>Uk Am Af cm cf B' l cs W h1 h2 h3);generalize hln:l.length=n at *;generalize ll.length=m at *;have HLN:=Aa hln;clear hln;go_enter Tryz.func32,Tryz.ntmps32;go_wp2_with fail
 refine(HFU.out _ (by exact(HR.out.below (aliasBr.alloc Ad _) hB).below (aliasBr.alloc Ad _) (by simp;omega)) (by simp;omega) HLEN.out).mono ?_;rintro e w1 ⟨A1,c1,rfl,hrd,hb1⟩;simp only;have hbw:Below w.heap.size w w1:=((aliasBr.alloc Ad _).alloc (by simp) _).trans (hb1.mono (by simp;omega));have hz:=hb1.size;simp at hz;have q0:w1.cell? ⟨w.heap.size+1,0,none⟩=some (.int .i64 0):=by rw[hb1.cell (by simp)];simp[go_sem]
 have q1:w1.cell? ⟨w.heap.size+1,1,none⟩=some (.int .i64 0):=by rw[hb1.cell (by simp)];simp[go_sem]
 have q2:w1.cell? ⟨w.heap.size+1,2,none⟩=some (.int .i64 0):=by rw[hb1.cell (by simp)];simp[go_sem]
 have q3:w1.cell? ⟨w.heap.size+1,3,none⟩=some (.int .i64 0):=by rw[hb1.cell (by simp)];simp[go_sem]
 have z:∀ o,w1.frozen? ⟨w.heap.size+1,o,none⟩=false:=fun o=>by rw[hb1.frozen (by simp)];simp[go_sem]
 have p1:w1.cell? ⟨w.heap.size,1,none⟩=some (.slice Am n cm):=by rw[hb1.cell (by simp;omega)];simp[go_sem]
 have y3:w.heap.size+1<w1.heap.size:=by omega
 have HRD:=Aa hrd;clear hb1 hrd;by_cases he:rr=0
 ·subst he;have hpr:=HPR.out;rw[if_neg (by simp)] at hpr;have HPR2:=Aa hpr;have hLw:=HL.out.below hbw hB;have HLW:=Aa hLw;clear hpr HPR hLw;go_wp2_with fail
  refine(HWH.out _ _ w1.heap.size _ (by exact HLW.out.more (by omega)) (by exact HRD.out) Ad HN.out (by omega)).mono ?_;rintro e w2 ⟨rfl,hb2⟩;rw[←HPR2.out];generalize Bd.program ll l=pr at *;obtain⟨⟨c0,c1',c2,c3⟩,pe⟩:=pr;simp only[Qa];have q0':w2.cell? ⟨w.heap.size+1,0,none⟩=some (.int .i64 0):=by rw[hb2.cell y3];exact q0
  have q1':w2.cell? ⟨w.heap.size+1,1,none⟩=some (.int .i64 0):=by rw[hb2.cell y3];exact q1
  have q2':w2.cell? ⟨w.heap.size+1,2,none⟩=some (.int .i64 0):=by rw[hb2.cell y3];exact q2
  have q3':w2.cell? ⟨w.heap.size+1,3,none⟩=some (.int .i64 0):=by rw[hb2.cell y3];exact q3
  have z':∀ o,w2.frozen? ⟨w.heap.size+1,o,none⟩=false:=fun o=>by rw[hb2.frozen y3];exact z o
  have hbw2:Below w.heap.size w w2:=hbw.trans (hb2.mono (by omega));clear q0 q1 q2 q3 z p1 HPR2;go_wp2;refine bodyPost_ret (v:=.tuple #[.agg #[.int .i64 c0,.int .i64 c1',.int .i64 c2,.int .i64 c3],.int .i64 pe]) (by simp[results,Tryz.results32,go_sem,q0',q1',q2',q3']) rfl ⟨rfl,(by repeat (first|exact aliasBr|assumption|(refine Below.setCell ?_ (by first|omega|(simp;done)|(simp;omega)) _)|(refine Below.drew ?_)|(refine below_drewN ?_ _)|(refine Below.alloc ?_ (by first|omega|(simp;done)|(simp;omega)) _)))⟩
 ·have hpr:=HPR.out;rw[if_pos he] at hpr;have HPR2:=Aa hpr;have h2:(rr !=0)=true:=by simpa using he
  clear hpr HPR he;go_wp2;refine bodyPost_ret (v:=.tuple #[.agg #[.int .i64 0,.int .i64 0,.int .i64 0,.int .i64 0],.int .i64 rr]) (by simp[results,Tryz.results32,go_sem,q0,q1,q2,q3]) rfl ⟨by rw[HPR2.out];rfl,(by repeat (first|exact aliasBr|assumption|(refine Below.setCell ?_ (by first|omega|(simp;done)|(simp;omega)) _)|(refine Below.drew ?_)|(refine below_drewN ?_ _)|(refine Below.alloc ?_ (by first|omega|(simp;done)|(simp;omega)) _)))⟩
end Go.Proofs.YtnhebmgibiomnaaGreat

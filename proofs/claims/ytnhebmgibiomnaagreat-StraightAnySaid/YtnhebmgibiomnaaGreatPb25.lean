/- Parts of the proof, joined: BuA BuI BuJ. -/
import Derived.Test.YtnhebmgibiomnaaGreatPb21
import Derived.Test.YtnhebmgibiomnaaGreatPb24
set_option linter.unusedVariables false
set_option linter.unusedSimpArgs false
set_option maxRecDepth 100000
set_option maxHeartbeats 8000000
namespace Go.Proofs.YtnhebmgibiomnaaGreat
open Go.RowKit Mc
theorem fn_at {fs:List Bd.Cost} {x:Int} (h0:0≤x) (h1:x<fs.length):∃ (i:Nat) (c:Bd.Cost),x=i∧fs[i]?=some c∧Bd.fn fs x=c:=by
 obtain⟨i,rfl⟩:∃ i:Nat,x=i:=⟨x.toNat,by omega⟩;obtain⟨c,hc⟩:∃ c,fs[i]?=some c:=⟨_,List.getElem?_eq_getElem (by omega)⟩;exact⟨i,c,rfl,hc,by unfold Bd.fn;rw[Int.toNat_natCast,List.getD_eq_getElem?_getD,hc];rfl⟩
theorem pl_at {ps:List Bu.Plan} {x:Int} (h0:0≤x) (h1:x<ps.length):∃ (i:Nat) (p:Bu.Plan),x=i∧ps[i]?=some p∧Bu.pl ps x=p:=by
 obtain⟨i,rfl⟩:∃ i:Nat,x=i:=⟨x.toNat,by omega⟩;obtain⟨c,hc⟩:∃ c,ps[i]?=some c:=⟨_,List.getElem?_eq_getElem (by omega)⟩;exact⟨i,c,rfl,hc,by unfold Bu.pl;rw[Int.toNat_natCast,List.getD_eq_getElem?_getD,hc];rfl⟩
theorem Gc (op a:Int) (fs:List Bd.Cost) (w:World) (B:Nat) (A:Option Addr) (c:Nat) (hB:B≤w.heap.size) (hR:Reads w B 4 A fs.length (Bk fs)) (hl:fs.length≤1000000) (hc:(op=37∨op=38)→0≤a∧a<fs.length) (hm:fs.all Bd.mayBe=true) :
  Calls Tryz.prog 65 #[.agg #[.int .i64 op,.int .i64 a],.slice A fs.length c] w fun e w'=>e=.returned (.int .i64 (Bu.growth (op,a) fs))∧Below w.heap.size w w':=by
 by_cases h37:op=37∨op=38
 ·obtain⟨h0,h1⟩:=hc h37;obtain⟨i,q,rfl,hq,hfn⟩:=fn_at h0 h1;have hbd:=Bd.fn_bd hm (i:Int);rw[hfn] at hbd;have hlt:=(List.getElem?_eq_some_iff.1 hq).1;obtain⟨b,off,rfl,hb,hcell⟩:=hR.2 (by omega);have d1:=hcell _ _ (Eh fs i q hq).2.1;rw[←Nat.add_assoc] at d1;have hbl:b<w.heap.size:=by omega
  rcases h37 with rfl|rfl
  ·have HG:Hid (Bu.growth (37,(i:Int)) fs=q.delta):=Aa (by unfold Bu.growth;rw[hfn];rfl);rw[HG.out];clear hc hm hfn hR hcell hq;go_enter Tryz.func65,Tryz.ntmps65;go_wp2;go_ret;exact⟨by first|rfl|simp[*],aliasBr.alloc Ad _⟩
  ·have HG:Hid (Bu.growth (38,(i:Int)) fs=q.delta-1):=Aa (by unfold Bu.growth;rw[hfn];rfl);rw[HG.out];clear hc hm hfn hR hcell hq;go_enter Tryz.func65,Tryz.ntmps65;go_wp2;go_ret;exact⟨by first|rfl|simp[*],aliasBr.alloc Ad _⟩
 ·have h1:¬ op=37:=fun h=>h37 (.inl h)
  have h2:¬ op=38:=fun h=>h37 (.inr h)
  clear hc hR hm h37;go_enter Tryz.func65,Tryz.ntmps65;go_wp2_with (refine(Fx _ _).mono ?_;rintro e w9 ⟨rfl,rfl⟩)
  all_goals
   go_ret;refine⟨Bi ?_,aliasBr.alloc Ad _⟩;unfold Bu.growth
   simp_all
theorem Sn (op a:Int) (ps:List Bu.Plan) (w:World) (B:Nat) (A:Option Addr) (c:Nat) (hB:B≤w.heap.size) (hR:RowAt (Ih 0) 89 w B A ps) (hl:ps.length≤1000000) (hc:(op=37∨op=38)→0≤a∧a<ps.length) (hs:∀ p∈ps,0≤p.size∧p.size≤20001) :
  Calls Tryz.prog 64 #[.agg #[.int .i64 op,.int .i64 a],.slice A ps.length c] w fun e w'=>e=.returned (.int .i64 (Bu.sizeOf (op,a) ps))∧Below w.heap.size w w':=by
 by_cases h37:op=37∨op=38
 ·obtain⟨h0,h1⟩:=hc h37;obtain⟨i,q,rfl,hq,hfn⟩:=pl_at h0 h1;have hbd:=hs q (List.mem_of_getElem? hq);have hlt:=(List.getElem?_eq_some_iff.1 hq).1;obtain⟨b,off,cs,rfl,hb,hrel,hcell⟩:=hR.get hq;obtain⟨As,cA,rfl,_⟩:=Qv hrel;have d1:=hcell 1 (.int .i64 q.size) rfl;simp only[Ih,Repr.map,Repr.pair,Repr.row,Repr.int,Nat.reduceAdd] at d1;have hbl:b<w.heap.size:=by omega
  obtain⟨hz1,hz2⟩:=hbd;have hw1:IntKind.i64.wrap (1+q.size)=1+q.size:=IntWalk.i64_in _ (by omega);have hw2:IntKind.i64.wrap (16*(1+q.size))=16*(1+q.size):=IntWalk.i64_in _ (by omega);have hw3:IntKind.i64.wrap (1+16*(1+q.size))=1+16*(1+q.size):=IntWalk.i64_in _ (by omega);rcases h37 with rfl|rfl
  ·have HG:Hid (Bu.sizeOf (37,(i:Int)) ps=q.size):=Aa (by unfold Bu.sizeOf;rw[hfn];rfl);rw[HG.out];clear hc hfn hR hcell hq hrel hs;go_enter Tryz.func64,Tryz.ntmps64;go_wp2;go_ret;refine⟨Bi ?_,aliasBr.alloc Ad _⟩
   first|rfl|simp[*]
  ·have HG:Hid (Bu.sizeOf (38,(i:Int)) ps=1+16*(1+q.size)):=Aa (by unfold Bu.sizeOf;rw[hfn];rfl);rw[HG.out];clear hc hfn hR hcell hq hrel hs;go_enter Tryz.func64,Tryz.ntmps64;go_wp2;go_ret;refine⟨Bi ?_,aliasBr.alloc Ad _⟩
   first|rfl|simp[*]
 ·have h1:¬ op=37:=fun h=>h37 (.inl h)
  have h2:¬ op=38:=fun h=>h37 (.inr h)
  clear hc hR hs h37;go_enter Tryz.func64,Tryz.ntmps64;go_wp2
  all_goals
   go_ret;refine⟨Bi ?_,aliasBr.alloc Ad _⟩;unfold Bu.sizeOf
   simp_all
end Go.Proofs.YtnhebmgibiomnaaGreat
namespace Go.Proofs.YtnhebmgibiomnaaGreat
namespace Bu
variable (fs : List Bd.Cost) (ps : List Plan)
theorem Ls (l r:List (Int×Int)):∀ (i:Nat) (s:PSt),planGo fs ps (l++r) i s=planGo fs ps r (i+l.length) (planGo fs ps l i s):=by
 induction l with
 | nil=>intro i s;rfl
 | cons x l ih =>
  intro i s;rw[List.cons_append,planGo,planGo,ih,List.length_cons,Nat.add_assoc,Nat.add_comm 1]
theorem planGo_take (l:List (Int×Int)) {i:Nat} {x:Int×Int} (h:l[i]?=some x) (s:PSt):planGo fs ps (l.take (i+1)) 0 s=plan1 fs ps i x (planGo fs ps (l.take i) 0 s):=by
 have hi:=(List.getElem?_eq_some_iff.1 h).1;rw[List.take_add_one,h,Option.toList_some,Ls,List.length_take,Nat.min_eq_left (Nat.le_of_lt hi),Nat.zero_add];rfl
structure CodeFine (k:Nat) (l:List (Int×Int)):Prop where
 jumps:∀ (i:Nat) x,l[i]?=some x→i+1+jump x≤l.length
 ahead:∀ x∈l,(x.1=35∨x.1=36)→0≤x.2
 calls:∀ x∈l,(x.1=37∨x.1=38)→0≤x.2∧x.2<k
 grows:∀ x∈l,-1000≤growth x fs∧growth x fs≤1000
 sizes:∀ x∈l,0≤sizeOf x ps∧sizeOf x ps≤1000000
structure PStOk (n i:Nat) (s:PSt):Prop where
 known:s.known.length=n+1
 high:s.high.length=n+1
 index:s.index.length=n+1
 low:∀ k,-1000*(i:Int)≤s.high.getD k 0∧s.high.getD k 0≤1000*(i:Int)
 steps:s.steps.length≤i
 gos:∀ p∈s.steps,p.go≤n
 at_:∀ k,s.index.getD k 0≤s.steps.length
 size:0≤s.size∧s.size≤20001
theorem start_ok (n:Nat):PStOk n 0 (start n) where
 known:=by simp[start]
 high:=by simp[start]
 index:=by simp[start]
 low:=fun k=>by
  have:(start n).high.getD k 0=0:=by
   simp only[start,List.getD_eq_getElem?_getD,List.getElem?_replicate];split <;> rfl
  rw[this];simp
 steps:=by simp[start]
 gos:=fun p h=>by simp[start] at h
 at_:=fun k=>by
  have:(start n).index.getD k 0=0:=by
   simp only[start,List.getD_eq_getElem?_getD,List.getElem?_replicate];split <;> rfl
  omega
 size:=by simp[start]
theorem Im {α:Type} (l:List α) (i k:Nat) (a d:α):(l.set i a).getD k d=a∨(l.set i a).getD k d=l.getD k d:=by
 simp only[List.getD_eq_getElem?_getD,List.getElem?_set];by_cases h:i=k
 ·subst h;by_cases h2:i<l.length
  ·left;simp[h2]
  ·right;simp[h2]
 ·right;simp[h]
theorem Zah {n i:Nat} {x:Int×Int} {s:PSt} (h:PStOk n i s) (hi:i<n) (hj:i+1+jump x≤n) (hg : -1000≤growth x fs∧growth x fs≤1000) (hz:0≤sizeOf x ps):PStOk n (i+1) (plan1 fs ps i x s):=by
 have hlow:=h.low i;have hw:∀ k,-1000*((i+1:Nat):Int)≤s.high.getD k 0∧s.high.getD k 0≤1000*((i+1:Nat):Int):=fun k=>by
  have:=h.low k;omega
 have hb : -1000*((i+1:Nat):Int)≤s.high.getD i 0+growth x fs∧s.high.getD i 0+growth x fs≤1000*((i+1:Nat):Int):=by omega
 have hs:=h.steps;unfold plan1;split
 ·exact⟨h.known,h.high,h.index,hw,by omega,h.gos,h.at_,h.size⟩
 ·simp only;refine⟨?_,?_,?_,?_,?_,?_,?_,?_⟩
  ·dsimp only;split <;> simp[h.known]
  ·dsimp only;split <;> simp[h.high]
  ·simp[h.index]
  ·intro k;dsimp only;split
   ·rcases Im s.high (i+1+jump x) k (s.high.getD i 0+growth x fs) 0 with e|e
    ·rw[e];exact hb
    ·rw[e];exact hw k
   ·rcases Im (s.high.set (i+1+jump x) (s.high.getD i 0+growth x fs)) (i+1) k (s.high.getD i 0+growth x fs) 0 with e|e
    ·rw[e];exact hb
    ·rw[e];rcases Im s.high (i+1+jump x) k (s.high.getD i 0+growth x fs) 0 with e|e
     ·rw[e];exact hb
     ·rw[e];exact hw k
  ·dsimp only;split
   ·simp;omega
   ·omega
  ·intro p hp;dsimp only at hp;split at hp
   ·rcases List.mem_append.1 hp with hp|hp
    ·exact h.gos p hp
    ·rw[List.mem_singleton] at hp;subst hp;exact hj
   ·exact h.gos p hp
  ·intro k;dsimp only;have h1:=h.at_ k;have h2:(s.index.set i s.steps.length).getD k 0≤s.steps.length:=by
    rcases Im s.index i k s.steps.length 0 with e|e
    ·omega
    ·rw[e];exact h1
   split
   ·exact Nat.le_trans h2 (by simp)
   ·exact h2
  ·have:=h.size;dsimp only;split <;> omega
theorem planGo_ok (l:List (Int×Int)) (k:Nat) (h:CodeFine fs ps k l):∀ i,i≤l.length→PStOk l.length i (planGo fs ps (l.take i) 0 (start l.length)):=by
 intro i
 induction i with
 | zero=>intro _;exact start_ok _
 | succ i ih =>
  intro hi;obtain⟨x,hx⟩:∃ x,l[i]?=some x:=⟨_,List.getElem?_eq_getElem (by omega)⟩;rw[planGo_take fs ps l hx];have hm:=List.mem_of_getElem? hx;exact Zah fs ps (ih (by omega)) (by omega) (h.jumps i x hx) (h.grows x hm) (h.sizes x hm).1
end Bu
end Go.Proofs.YtnhebmgibiomnaaGreat
namespace Go.Proofs.YtnhebmgibiomnaaGreat
open Go.RowKit Mc
def Cb (l:List Bu.PS):List Value:=l.flatMap fun s=>[.int .i64 s.op,.int .i64 s.a,.int .i64 s.high,.int .i64 (s.go:Int)]
theorem Oz (l:List Bu.PS):(Cb l).length=l.length*4:=by
 induction l with
 | nil=>rfl
 | cons s l ih=>simp only[Cb,List.flatMap_cons,List.length_append,List.length_cons,List.length_nil] at ih ⊢;omega
theorem Gl (l r:List Bu.PS):Cb (l++r)=Cb l++Cb r:=by simp[Cb]
def Ff (l:List Bool):List Value:=l.map .bool
theorem Oa (l:List Bool):(Ff l).length=l.length:=by simp[Ff]
theorem Nz (l:List Bool) (i:Nat) (b:Bool):Ff (l.set i b)=(Ff l).set i (.bool b):=by simp[Ff,List.map_set]
theorem Dd {l:List Bool} {i:Nat} (h:i<l.length):(Ff l)[i]?=some (.bool (l.getD i false)):=by
 simp[Ff,List.getD_eq_getElem?_getD,List.getElem?_eq_getElem h]
theorem Xi:(Tryz.prog.info? 4).map (fun i=>(i.zero,i.size,i.bytes))=some (some (.bool false),1,1):=by kernel_rfl
theorem Ti (n:Nat):madeCells #[Value.bool false] n=(Ff (List.replicate n false)).toArray:=by
 unfold madeCells;apply Array.toList_inj.1;simp only[Array.toList_map,Array.toList_range,Ff,List.map_replicate];rw[List.eq_replicate_iff];exact⟨by simp,by intro b hb;simp at hb;obtain⟨a,ha,rfl⟩:=hb;rw[show a % 1=0 by omega];rfl⟩
theorem Th (n:Nat) (hn:n≤1000000) (w:World):(Instr.makeSlice 142 (.int .i64 (n:Int)) (.int .i64 (n:Int))).run Tryz.prog w=.ok (.slice (some ⟨w.heap.size,0,none⟩) n n) (w.alloc (.cells (Ff (List.replicate n false)).toArray 4)):=by
 obtain⟨i,hi,hz0,hz1,hz2⟩:=Dc Xi;have:=Gz (P:=Tryz.prog) 142 4 i _ Tryz.underlying142 hi hz0 n (by rw[hz2];omega) (by omega) w;rw[hz1,Nat.mul_one,show (Value.bool false).cells = #[.bool false] from rfl,Ti] at this;exact this
def Wk (l:List Nat):List Value:=ints (l.map fun (k:Nat)=>(k:Int))
theorem Lt (l:List Nat):(Wk l).length=l.length:=by simp[Wk,Bw]
theorem Zao (l:List Nat) (i k:Nat):Wk (l.set i k)=(Wk l).set i (.int .i64 (k:Int)):=by
 unfold Wk;rw[List.map_set,Dr]
structure PlL (w:World) (n:Nat) (s:Bu.PSt) (vs:Value) (W:World):Prop where
 out:Blk W w.heap.size 89 #[.slice none 0 0,.int .i64 0]
 box:Blk W (w.heap.size+1) 89 #[vs,.int .i64 s.size]
 known:W.ownsRow w.heap.size 4 1 (.slice (some ⟨w.heap.size+1+1,0,none⟩) (n+1) (n+1)) (n+1) (Ff s.known)
 high:W.ownsRow w.heap.size 3 1 (.slice (some ⟨w.heap.size+1+1+1,0,none⟩) (n+1) (n+1)) (n+1) (ints s.high)
 index:W.ownsRow w.heap.size 3 1 (.slice (some ⟨w.heap.size+1+1+1+1,0,none⟩) (n+1) (n+1)) (n+1) (Wk s.index)
 steps:W.ownsRow w.heap.size 145 4 vs s.steps.length (Cb s.steps)
 below:Below w.heap.size w W
def goes (x:List Nat) (l:List Bu.PS) (k:Nat):List Bu.PS:=(l.take k).map (fun p => { p with go:=x.getD p.go 0 })++l.drop k
theorem Il (x:List Nat) (l:List Bu.PS) (k:Nat):(goes x l k).length=l.length:=by unfold goes;simp;omega
theorem Xk (x:List Nat) (l:List Bu.PS):goes x l 0=l:=by unfold goes;simp
theorem Zbc (x:List Nat) (l:List Bu.PS):goes x l l.length=l.map fun p => { p with go:=x.getD p.go 0 } := by unfold goes;simp
theorem Zfd (x:List Nat) (l:List Bu.PS) (k:Nat):(goes x l k)[k]?=l[k]?:=by
 unfold goes;by_cases h:k<l.length
 ·rw[List.getElem?_append_right (by simp;omega)];simp[Nat.min_eq_left (Nat.le_of_lt h)]
 ·rw[List.getElem?_eq_none (by simp;omega),List.getElem?_eq_none (by omega)]
theorem Xl (x:List Nat) (l:List Bu.PS) (k:Nat) {p:Bu.PS} (h:l[k]?=some p):(goes x l k).set k { p with go:=x.getD p.go 0 } = goes x l (k+1):=by
 unfold goes;have hk:=(List.getElem?_eq_some_iff.1 h).1;have hd:l.drop k=p::l.drop (k+1):=by
  rw[List.drop_eq_getElem_cons hk];rw[List.getElem?_eq_getElem hk] at h;rw[Option.some.inj h]
 have hl:((l.take k).map fun p:Bu.PS => { p with go:=x.getD p.go 0 }).length=k:=by rw[List.length_map,List.length_take];omega
 rw[List.set_append_right _ _ (by omega),hl,Nat.sub_self,hd,List.set_cons_zero,List.take_add_one,h];simp
section
variable {w W : World} {n : Nat} {s : Bu.PSt} {vs : Value}
theorem PlL.alloc (h:PlL w n s vs W) (o:Obj):PlL w n s vs (W.alloc o):=⟨h.out.alloc o,h.box.alloc o,h.known.alloc o,h.high.alloc o,h.index.alloc o,h.steps.alloc o,h.below.alloc h.below.size o⟩
theorem PlL.drew (h:PlL w n s vs W):PlL w n s vs W.drew:=⟨h.out.drew,h.box.drew,h.known.drew,h.high.drew,h.index.drew,h.steps.drew,h.below.drew⟩
theorem PlL.old {W':World} (h:PlL w n s vs W) (hb:Below W.heap.size W W'):PlL w n s vs W':=by
 have hg:∀ {base size m:Nat} {t:TypeId} {v:Value} {xs:List Value},W.ownsRow base t size v m xs→W'.ownsRow base t size v m xs:=fun ho=>Bo ho fun g e=>hb.block g (Ag ho e).2.1
 exact⟨(hb.block _ h.out.lt).trans h.out,(hb.block _ h.box.lt).trans h.box,hg h.known,hg h.high,hg h.index,hg h.steps,h.below.trans (hb.mono h.below.size)⟩
theorem Cq {W:World} {base size n:Nat} {t:TypeId} {v:Value} {xs:List Value} (h:W.ownsRow base t size v n xs) {g:Nat} (hg:∀ k,v.ownBlock=some k→k≠g) (i:Nat) (u:Value):(W.setCell ⟨g,i,none⟩ u).ownsRow base t size v n xs :=
 Bo h fun k e=>Below.heap_setCell _ _ _ _ (hg k e)
theorem PlL.setKnown (h:PlL w n s vs W) {i:Nat} (hi:i<s.known.length) (b:Bool):PlL w n { s with known:=s.known.set i b } vs (W.setCell ⟨w.heap.size+1+1,i,none⟩ (.bool b)):=by
 obtain⟨_,_,cs,hb⟩:=Ag h.known (g:=w.heap.size+1+1) rfl;refine⟨h.out.far (p:=⟨w.heap.size+1+1,i,none⟩) (by show w.heap.size≠w.heap.size+1+1;omega) _,h.box.far (p:=⟨w.heap.size+1+1,i,none⟩) (by show w.heap.size+1≠w.heap.size+1+1;omega) _,?_,Cq h.high (fun k e=>by simp only[Value.ownBlock,Option.some.injEq] at e;omega) _ _,Cq h.index (fun k e=>by simp only[Value.ownBlock,Option.some.injEq] at e;omega) _ _,Be h.steps hb (by decide) _ _,h.below.setCell (p:=⟨w.heap.size+1+1,i,none⟩) (by show w.heap.size≤w.heap.size+1+1;omega) _⟩;have:=Cg h.known (g:=w.heap.size+1+1) rfl (j:=i) (by rw[Oa];omega) (.bool b)
 rwa [←Nz] at this
theorem PlL.setHigh (h:PlL w n s vs W) {i:Nat} (hi:i<s.high.length) (v:Int):PlL w n { s with high:=s.high.set i v } vs (W.setCell ⟨w.heap.size+1+1+1,i,none⟩ (.int .i64 v)):=by
 obtain⟨_,_,cs,hb⟩:=Ag h.high (g:=w.heap.size+1+1+1) rfl;refine⟨h.out.far (p:=⟨w.heap.size+1+1+1,i,none⟩) (by show w.heap.size≠w.heap.size+1+1+1;omega) _,h.box.far (p:=⟨w.heap.size+1+1+1,i,none⟩) (by show w.heap.size+1≠w.heap.size+1+1+1;omega) _,Cq h.known (fun k e=>by simp only[Value.ownBlock,Option.some.injEq] at e;omega) _ _,?_,Cq h.index (fun k e=>by simp only[Value.ownBlock,Option.some.injEq] at e;omega) _ _,Be h.steps hb (by decide) _ _,h.below.setCell (p:=⟨w.heap.size+1+1+1,i,none⟩) (by show w.heap.size≤w.heap.size+1+1+1;omega) _⟩;have:=Cg h.high (g:=w.heap.size+1+1+1) rfl (j:=i) (by rw[Bw];omega) (.int .i64 v)
 rwa [←Dr] at this
theorem PlL.setIndex (h:PlL w n s vs W) {i:Nat} (hi:i<s.index.length) (v:Nat):PlL w n { s with index:=s.index.set i v } vs (W.setCell ⟨w.heap.size+1+1+1+1,i,none⟩ (.int .i64 (v:Int))):=by
 obtain⟨_,_,cs,hb⟩:=Ag h.index (g:=w.heap.size+1+1+1+1) rfl;refine⟨h.out.far (p:=⟨w.heap.size+1+1+1+1,i,none⟩) (by show w.heap.size≠w.heap.size+1+1+1+1;omega) _,h.box.far (p:=⟨w.heap.size+1+1+1+1,i,none⟩) (by show w.heap.size+1≠w.heap.size+1+1+1+1;omega) _,Cq h.known (fun k e=>by simp only[Value.ownBlock,Option.some.injEq] at e;omega) _ _,Cq h.high (fun k e=>by simp only[Value.ownBlock,Option.some.injEq] at e;omega) _ _,?_,Be h.steps hb (by decide) _ _,h.below.setCell (p:=⟨w.heap.size+1+1+1+1,i,none⟩) (by show w.heap.size≤w.heap.size+1+1+1+1;omega) _⟩;have:=Cg h.index (g:=w.heap.size+1+1+1+1) rfl (j:=i) (by rw[Lt];omega) (.int .i64 (v:Int))
 rwa [←Zao] at this
theorem PlL.start (w:World) (n:Nat) (hn:n≤1000000):PlL w n (Bu.start n) (.slice none 0 0) (((((w.alloc (.cells #[.slice none 0 0,.int .i64 0] 89)).alloc (.cells #[.slice none 0 0,.int .i64 0] 89)).alloc (.cells ((Ff (List.replicate (n+1) false)).set 0 (.bool true)).toArray 4)).alloc (.cells (ints (List.replicate (n+1) 0)).toArray 3)).alloc (.cells (ints (List.replicate (n+1) 0)).toArray 3)):=by
 have hm:n+1≤maxLen:=by unfold maxLen;omega
 have hk:(Ff (List.replicate (n+1) false)).set 0 (.bool true)=Ff (Bu.start n).known:=by
  rw[←Nz,List.replicate_succ];rfl
 have hi:ints (List.replicate (n+1) 0)=Wk (Bu.start n).index:=by
  unfold Wk Bu.start;rw[List.map_replicate];rfl
 refine⟨(((((Blk.new w _ _).alloc _).alloc _).alloc _).alloc _),?_,?_,?_,?_,Di _ _ _ _,?_⟩
 ·exact(((Blk.new_at _ _ _ (by simp)).alloc _).alloc _).alloc _
 ·rw[hk];have:=Cx (W:=(w.alloc (.cells #[.slice none 0 0,.int .i64 0] 89)).alloc (.cells #[.slice none 0 0,.int .i64 0] 89)) (B:=w.heap.size) (t:=4) (size:=1) (n:=n+1) (xs:=Ff (Bu.start n).known) (by rw[Oa];simp[Bu.start]) (by simp;omega) hm
  simpa using (this.alloc _).alloc _
 ·have:=Cx (W:=((w.alloc (.cells #[.slice none 0 0,.int .i64 0] 89)).alloc (.cells #[.slice none 0 0,.int .i64 0] 89)).alloc (.cells ((Ff (List.replicate (n+1) false)).set 0 (.bool true)).toArray 4)) (B:=w.heap.size) (t:=3) (size:=1) (n:=n+1) (xs:=ints (List.replicate (n+1) 0)) (by rw[Bw];simp) (by simp;omega) hm;have h2:=this.alloc (.cells (ints (List.replicate (n+1) 0)).toArray 3)
  simpa [Bu.start] using h2
 ·rw[←hi];have:=Cx (W:=(((w.alloc (.cells #[.slice none 0 0,.int .i64 0] 89)).alloc (.cells #[.slice none 0 0,.int .i64 0] 89)).alloc (.cells ((Ff (List.replicate (n+1) false)).set 0 (.bool true)).toArray 4)).alloc (.cells (ints (List.replicate (n+1) 0)).toArray 3)) (B:=w.heap.size) (t:=3) (size:=1) (n:=n+1) (xs:=ints (List.replicate (n+1) 0)) (by rw[Bw];simp) (by simp;omega) hm
  simpa using this
 ·exact(((((Below.refl _ w).alloc Ad _).alloc (by simp) _).alloc (by simp;omega) _).alloc (by simp;omega) _).alloc (by simp;omega) _
theorem PlL.setBox (h:PlL w n s vs W) (k:Nat) (u v':Value) {z':Int} (hk:(#[vs,.int .i64 s.size]:Array Value).setIfInBounds k u = #[v',.int .i64 z']) (hs:(W.setCell ⟨w.heap.size+1,k,none⟩ u).ownsRow w.heap.size 145 4 v' s.steps.length (Cb s.steps)):PlL w n { s with size:=z' } v' (W.setCell ⟨w.heap.size+1,k,none⟩ u):=by
 refine⟨h.out.far (p:=⟨w.heap.size+1,k,none⟩) (by show w.heap.size≠w.heap.size+1;omega) _,?_,Cq h.known (fun k e=>by simp only[Value.ownBlock,Option.some.injEq] at e;omega) _ _,Cq h.high (fun k e=>by simp only[Value.ownBlock,Option.some.injEq] at e;omega) _ _,Cq h.index (fun k e=>by simp only[Value.ownBlock,Option.some.injEq] at e;omega) _ _,hs,h.below.setCell (p:=⟨w.heap.size+1,k,none⟩) (by show w.heap.size≤w.heap.size+1;omega) _⟩;have:=h.box.set_ k u
 rwa [hk] at this
theorem PlL.setSize (h:PlL w n s vs W) (z:Int):PlL w n { s with size:=z } vs (W.setCell ⟨w.heap.size+1,1,none⟩ (.int .i64 z)) :=
 h.setBox 1 _ vs (by simp) (Be h.steps h.box (by decide) _ _)
theorem PlL.pushed (h:PlL w n s vs W) {W':World} {v':Value} {x:Bu.PS} (ho:W'.ownsRow w.heap.size 145 4 v' (s.steps++[x]).length (Cb (s.steps++[x]))) (hg:W.grownBy W' vs.ownBlock):PlL w n { s with steps:=s.steps++[x] } v' (W'.setCell ⟨w.heap.size+1,0,none⟩ v'):=by
 have hcb:∀ g,vs.ownBlock=some g→∃ cs,Blk W g 145 cs:=fun g e=>(Ag h.steps e).2.2
 have hb:∀ (g:Nat) (t:TypeId) (cs:Array Value),Blk W g t cs→t≠145→Blk W' g t cs:=fun g t cs hb ht=>hb.grown hg fun e=>by
  obtain⟨cs',hb'⟩:=hcb g e.symm;exact hb.ne_ hb' ht rfl
 have hr:∀ {base size m:Nat} {t:TypeId} {v:Value} {xs:List Value},W.ownsRow base t size v m xs→t≠145→W'.ownsRow base t size v m xs:=fun ho ht=>Bo ho fun g e=>by
  obtain⟨_,_,cs,hbg⟩:=Ag ho e;exact(hb g _ cs hbg ht).trans hbg.symm
 have hbel:Below w.heap.size w W':=h.below.grown hg h.below.size fun g e=>by
  obtain⟨h1,_,_⟩:=Ag h.steps e;exact h1
 have hbox:=hb _ _ _ h.box (by decide);have hset:=hbox.set_ 0 v';refine⟨(hb _ _ _ h.out (by decide)).far (p:=⟨w.heap.size+1,0,none⟩) (by show w.heap.size≠w.heap.size+1;omega) _,?_,Cq (hr h.known (by decide)) (fun k e=>by simp only[Value.ownBlock,Option.some.injEq] at e;omega) _ _,Cq (hr h.high (by decide)) (fun k e=>by simp only[Value.ownBlock,Option.some.injEq] at e;omega) _ _,Cq (hr h.index (by decide)) (fun k e=>by simp only[Value.ownBlock,Option.some.injEq] at e;omega) _ _,Be ho hbox (by decide) _ _,hbel.setCell (p:=⟨w.heap.size+1,0,none⟩) (by show w.heap.size≤w.heap.size+1;omega) _⟩
 simpa using hset
theorem PlL.pushedBox (h:PlL w n s vs W) {W':World} (hg:W.grownBy W' vs.ownBlock):Blk W' (w.heap.size+1) 89 #[vs,.int .i64 s.size]:=h.box.grown hg fun e=>by
 obtain⟨cs',hb'⟩:=(Ag h.steps e.symm).2.2;exact h.box.ne_ hb' (by decide) rfl
theorem PlL.pushedFar (h:PlL w n s vs W) {W':World} {g:Nat} {t:TypeId} {cs:Array Value} (hb:Blk W g t cs) (ht:t≠145) (hg:W.grownBy W' vs.ownBlock):Blk W' g t cs:=hb.grown hg fun e=>by
 obtain⟨cs',hb'⟩:=(Ag h.steps e.symm).2.2;exact hb.ne_ hb' ht rfl
theorem Gv:∀ (l:List Bu.PS) (i:Nat) (r:Bu.PS) (v:Nat),l[i]?=some r→Cb (l.set i { r with go:=v })=(Cb l).set (i*4+3) (.int .i64 (v:Int))
 | [],i,r,v,h=>by simp at h
 | x::l,0,r,v,h=>by
  simp only[List.getElem?_cons_zero,Option.some.injEq] at h;subst h;rfl
 | x::l,i+1,r,v,h=>by
  simp only[List.getElem?_cons_succ] at h;have:=Gv l i r v h;rw[show (i+1)*4+3=(i*4+3)+1+1+1+1 by omega];simp only[Cb,List.flatMap_cons,List.set_cons_succ,List.cons_append,List.nil_append] at this ⊢;rw[this]
theorem Kw:∀ (l:List Bu.PS) (i:Nat) (r:Bu.PS),l[i]?=some r→(Cb l)[i*4+3]?=some (.int .i64 (r.go:Int))
 | [],i,r,h=>by simp at h
 | x::l,0,r,h=>by
  simp only[List.getElem?_cons_zero,Option.some.injEq] at h;subst h;rfl
 | x::l,i+1,r,h=>by
  simp only[List.getElem?_cons_succ] at h;rw[show (i+1)*4+3=(i*4+3)+1+1+1+1 by omega];simp only[Cb,List.flatMap_cons,List.cons_append,List.nil_append,List.getElem?_cons_succ];exact Kw l i r h
theorem PlL.setGo (h:PlL w n s vs W) {g:Nat} (hg:vs.ownBlock=some g) {i:Nat} {r:Bu.PS} (hr:s.steps[i]?=some r) (v:Nat):PlL w n { s with steps:=s.steps.set i { r with go:=v } } vs (W.setCell ⟨g,i*4+3,none⟩ (.int .i64 (v:Int))):=by
 obtain⟨hge,_,cs,hb⟩:=Ag h.steps hg;have hi:=(List.getElem?_eq_some_iff.1 hr).1;refine⟨h.out.far (p:=⟨g,i*4+3,none⟩) (h.out.ne_ hb (by decide)) _,h.box.far (p:=⟨g,i*4+3,none⟩) (h.box.ne_ hb (by decide)) _,Be h.known hb (by decide) _ _,Be h.high hb (by decide) _ _,Be h.index hb (by decide) _ _,?_,h.below.setCell (p:=⟨g,i*4+3,none⟩) hge _⟩;have:=Cg h.steps hg (j:=i*4+3) (by rw[Oz];omega) (.int .i64 (v:Int));rw[←Gv s.steps i r v hr] at this
 simpa using this
end
end Go.Proofs.YtnhebmgibiomnaaGreat

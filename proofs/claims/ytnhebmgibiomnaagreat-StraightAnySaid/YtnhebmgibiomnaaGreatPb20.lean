/- Parts of the proof, joined: BuB BuC BuD BuE BuF BuG. -/
import Derived.Test.YtnhebmgibiomnaaGreatPb19
set_option linter.unusedVariables false
set_option linter.unusedSimpArgs false
set_option maxRecDepth 100000
set_option maxHeartbeats 8000000
namespace Go.Proofs.YtnhebmgibiomnaaGreat
open Go.RowKit Mc
def psR (N0:Nat):Repr N0 Bu.PS:=Repr.map (fun s=>(s.op,s.a,s.high,(s.go:Int))) (Repr.pair Repr.int (Repr.pair Repr.int (Repr.pair Repr.int Repr.int)))
def Ih (N0:Nat):Repr N0 Bu.Plan:=Repr.map (fun p=>(p.steps,p.size)) (Repr.pair (Repr.row 145 (psR N0)) Repr.int)
theorem Zaz:(Tryz.prog.info? 50).map (fun i=>(i.zero,i.size,i.bytes))=some (some (.agg #[.int .i64 0,.int .i64 0,.int .i64 0,.int .i64 0,.int .i64 0]),5,40):=by kernel_rfl
def PlansAt (w:World) (v:Value) (ps:List Bu.Plan):Prop:=∃ A c,v=.slice A ps.length c∧RowAt (Ih 0) 89 w w.heap.size A ps
structure FrT (B:Nat) (w w':World):Prop where
 below:Below B w w'
 keep:∀ (k:Nat) (t:TypeId) (cs:Array Value) (fz:Nat×Nat),w.heap[k]?=some (.cells cs t fz)→t≠86→t≠50→w'.heap[k]?=some (.cells cs t fz)
theorem FrT.refl (B:Nat) (w:World):FrT B w w:=⟨aliasBr,fun _ _ _ _ h _ _=>h⟩
theorem FrT.trans {B:Nat} {w w1 w2:World} (h:FrT B w w1) (k:FrT B w1 w2):FrT B w w2:=⟨h.below.trans k.below,fun i t cs fz e h1 h2=>k.keep i t cs fz (h.keep i t cs fz e h1 h2) h1 h2⟩
theorem FrT.alloc {B:Nat} {w w1:World} (h:FrT B w w1) (hB:B≤w1.heap.size) (o:Obj):FrT B w (w1.alloc o) :=
 ⟨h.below.alloc hB o,fun i t cs fz e h1 h2=>(Below.heap_alloc _ _ _ (Array.getElem?_eq_some_iff.1 (h.keep i t cs fz e h1 h2)).1).trans (h.keep i t cs fz e h1 h2)⟩
theorem FrT.drew {B:Nat} {w w1:World} (h:FrT B w w1):FrT B w w1.drew:=⟨h.below.drew,fun i t cs fz e h1 h2=>h.keep i t cs fz e h1 h2⟩
theorem FrT.blk {B:Nat} {w w':World} (h:FrT B w w') {k:Nat} {t:TypeId} {cs:Array Value} (hb:Blk w k t cs) (h1:t≠86) (h2:t≠50):Blk w' k t cs:=h.keep k t cs (0,0) hb h1 h2
theorem PlansAt.fr {B:Nat} {w w':World} {v:Value} {ps:List Bu.Plan} (h:PlansAt w v ps) (hf:FrT B w w'):PlansAt w' v ps:=by
 obtain⟨A,c,e,hr⟩:=h;refine⟨A,c,e,(hr.keep fun g t xs fz _ ht hh=>hf.keep g t xs fz hh ?_ ?_).more hf.below.size⟩
 all_goals
  rcases ht with ht|ht
  ·omega
  ·rintro rfl
   revert ht
   decide
structure BuL (w:World) (B bb:Nat) (pv cv:Value) (ps:List Bu.Plan) (code:List Sr.Reg):Prop where
 blk:Blk w bb 86 #[pv,cv]
 ps:PlansAt w pv ps
 code:w.ownsRow 0 50 5 cv code.length (Ba code)
 base:B≤bb
 own:∀ g,cv.ownBlock=some g→B≤g
section
variable {w w' : World} {B bb : Nat} {pv cv : Value} {ps : List Bu.Plan} {code : List Sr.Reg}
theorem BuL.grow (h:BuL w B bb pv cv ps code) (hg:Grow w w'):BuL w' B bb pv cv ps code:=by
 refine⟨hg.blk h.blk (fun x=>x),?_,Bc h.code hg,h.base,h.own⟩;obtain⟨A,c,e,hr⟩:=h.ps;exact⟨A,c,e,(hr.keep fun g t xs fz _ _ hh=>(hg.block g (Array.getElem?_eq_some_iff.1 hh).1 (fun x=>x)).trans hh).more hg.size⟩
theorem BuL.alloc (h:BuL w B bb pv cv ps code) (o:Obj):BuL (w.alloc o) B bb pv cv ps code:=h.grow ((Fr.refl _ _).alloc _)
theorem BuL.drew (h:BuL w B bb pv cv ps code):BuL w.drew B bb pv cv ps code:=h.grow (Fr.refl _ _).drew
end
def BuPost (w:World) (B bb:Nat) (pv:Value) (ps:List Bu.Plan) (code:List Sr.Reg) (e:Ending) (w':World):Prop:=e=.returned (.tuple #[])∧(∃ cv,BuL w' B bb pv cv ps code)∧FrT B w w'
theorem BuL.pushed {w w1:World} {B bb:Nat} {pv cv v':Value} {ps:List Bu.Plan} {code code':List Sr.Reg} (h:BuL w B bb pv cv ps code) (ho:w1.ownsRow 0 50 5 v' code'.length (Ba code')) (hg:w.grownBy w1 cv.ownBlock) (hB:B≤w.heap.size) (hn:v'.ownBlock=cv.ownBlock∨v'.ownBlock=some w.heap.size) :
  Blk w1 bb 86 #[pv,cv]∧BuL (w1.setCell ⟨bb,1,none⟩ v') B bb pv v' ps code'∧FrT B w (w1.setCell ⟨bb,1,none⟩ v'):=by
 have hcb:∀ g,cv.ownBlock=some g→∃ cs,Blk w g 50 cs:=fun g e=>(Ag h.code e).2.2
 have hb:Blk w1 bb 86 #[pv,cv]:=h.blk.grown hg fun e=>by
  obtain⟨cs,hb'⟩:=hcb bb e.symm;exact h.blk.ne_ hb' (by decide) rfl
 have hkeep:∀ (k:Nat) (t:TypeId) (cs:Array Value) (fz:Nat×Nat),w.heap[k]?=some (.cells cs t fz)→t≠86→t≠50→(w1.setCell ⟨bb,1,none⟩ v').heap[k]?=some (.cells cs t fz):=fun k t cs fz e h1 h2=>by
  have e1:w1.heap[k]?=some (.cells cs t fz):=by
   rw[hg.block k (Array.getElem?_eq_some_iff.1 e).1 (fun e2=>by
    obtain⟨cs',hb'⟩:=hcb k e2.symm;unfold Blk at hb';rw[e] at hb'
    injection hb' with hb'
    injection hb' with _ ht
    exact h2 ht)]
   exact e
  exact Gs hb 1 v' k t cs fz (fun e=>h1 e.symm) e1
 have hf:FrT B w (w1.setCell ⟨bb,1,none⟩ v'):=⟨((Below.refl B w).grown hg hB (fun g e=>h.own g e)).setCell (p:=⟨bb,1,none⟩) h.base _,hkeep⟩;refine⟨hb,⟨?_,h.ps.fr hf,Be ho hb (by decide) 1 v',h.base,fun g e=>?_⟩,hf⟩
 ·have:=hb.set_ 1 v'
  simpa using this
 ·rcases hn with hn|hn
  ·exact h.own g (hn ▸ e)
  ·rw[hn] at e
   injection e with e
   omega
theorem Ep {P:Program} (w:World) {ops:Array Oper} {o:Oper} {a:Act} {K:Act→World→Prop} {Q:Exit→Act→World→Prop} {E:Prop} (hgd:o.guard=none) (s x:Operand) (t:TypeId)
  (ho:o.op=.call { callee:=.builtin .append,args:=#[s,x],argTypes:=#[t,t] }) (e:TypeId) (i:TypeInfo) (z:Value) (size bytes:Nat) (ht:P.underlying t=some (.slice e)) (hi:P.info? e=some i) (hz:i.zero=some z)
  (hsize:i.size=size) (hby:i.bytes=bytes) (hzs:z.cells.size=size) (hsz:0<size)
  (base:Nat) (v:Value) (n:Nat) (xs:List Value) (hs:a.eval s=v) (hown:w.ownsRow base e size v n xs) (hbase:base≤w.heap.size)
  (B:Nat) (A:Option Addr) (m c:Nat) (news:List Value) (hx:a.eval x=.slice A m c) (hr:Reads w B size A m news) (h1:∀ u∈news,u.oneCell'=true)
  (h63:n+m≤maxLen) (hbytes:(n+m)*bytes≤140737488355328)
  (h:∀ v' w',w'.ownsRow base e size v' (n+m) (xs++news)→w.grownBy w' v.ownBlock→(v'.ownBlock=v.ownBlock∨v'.ownBlock=some w.heap.size)→K (a.put o.dst v') w') :
  if Region.wanted o (yielded ops a.tmps)=true then Oper.wp P o a w K Q else E:=by
 have hw:Region.wanted o (yielded ops a.tmps)=true:=by simp[Region.wanted,hgd]
 rw[if_pos hw];exact Dm w s x t ho base e i z size bytes ht hi hz hsize hby hzs hsz v n xs hs hown B A m c news hx hr h1 h63 hbytes hbase h
theorem Cr (w:World) (B bb:Nat) (pv cv:Value) (ps:List Bu.Plan) (code:List Sr.Reg) (h:BuL w B bb pv cv ps code) (hB:B≤w.heap.size) (hl:code.length<1000000) (r:Sr.Reg) :
  Calls Tryz.prog 36 #[.pointer (some ⟨bb,0,none⟩),Cu r] w (BuPost w B bb pv ps (code++[r])):=by
 obtain⟨op,d,a,b,n⟩:=r;unfold Cu;obtain⟨Ac,cc,hcv,hcc,_⟩:=Ae h.code;subst hcv;have H:=Aa h;have hbl:=h.blk.lt;have HRC:Hid (Ba (code++[⟨op,d,a,b,n⟩])=Ba code++[.int .i64 op,.int .i64 d,.int .i64 a,.int .i64 b,.int .i64 n]):=Aa (Nb code [⟨op,d,a,b,n⟩]);obtain⟨i0,hi0,hi1,hi2,hi3⟩:=Dc Zaz;clear h;go_enter Tryz.func36,Tryz.ntmps36;go_wp2_with fail
 have r0:(w.alloc (.cells #[.int .i64 op,.int .i64 d,.int .i64 a,.int .i64 b,.int .i64 n] 50)).cell? ⟨w.heap.size,0,none⟩=some (.int .i64 op):=(Blk.new w _ _).cell 0;have r1:(w.alloc (.cells #[.int .i64 op,.int .i64 d,.int .i64 a,.int .i64 b,.int .i64 n] 50)).cell? ⟨w.heap.size,1,none⟩=some (.int .i64 d):=(Blk.new w _ _).cell 1;have r2:(w.alloc (.cells #[.int .i64 op,.int .i64 d,.int .i64 a,.int .i64 b,.int .i64 n] 50)).cell? ⟨w.heap.size,2,none⟩=some (.int .i64 a):=(Blk.new w _ _).cell 2;have r3:(w.alloc (.cells #[.int .i64 op,.int .i64 d,.int .i64 a,.int .i64 b,.int .i64 n] 50)).cell? ⟨w.heap.size,3,none⟩=some (.int .i64 b):=(Blk.new w _ _).cell 3;have r4:(w.alloc (.cells #[.int .i64 op,.int .i64 d,.int .i64 a,.int .i64 b,.int .i64 n] 50)).cell? ⟨w.heap.size,4,none⟩=some (.int .i64 n):=(Blk.new w _ _).cell 4;have H1:=Aa (H.out.alloc (.cells #[.int .i64 op,.int .i64 d,.int .i64 a,.int .i64 b,.int .i64 n] 50));have F1:=Aa ((FrT.refl B w).alloc hB (.cells #[.int .i64 op,.int .i64 d,.int .i64 a,.int .i64 b,.int .i64 n] 50));have hz:w.heap.size<(w.alloc (.cells #[.int .i64 op,.int .i64 d,.int .i64 a,.int .i64 b,.int .i64 n] 50)).heap.size:=by simp
 generalize (w.alloc (.cells #[.int .i64 op,.int .i64 d,.int .i64 a,.int .i64 b,.int .i64 n] 50))=W at *;have c1:=Ab H1.out.blk 1 rfl;have HA:=Aa (H1.out.drew.alloc (.cells #[.int .i64 op,.int .i64 d,.int .i64 a,.int .i64 b,.int .i64 n] 50));have FA:=Aa (F1.out.drew.alloc (by show B≤W.heap.size;omega) (.cells #[.int .i64 op,.int .i64 d,.int .i64 a,.int .i64 b,.int .i64 n] 50));have hS2:(W.drew.alloc (.cells #[.int .i64 op,.int .i64 d,.int .i64 a,.int .i64 b,.int .i64 n] 50)).cell? ⟨bb,1,none⟩=some (.slice Ac code.length cc)∧(W.drew.alloc (.cells #[.int .i64 op,.int .i64 d,.int .i64 a,.int .i64 b,.int .i64 n] 50)).cell? ⟨w.heap.size,0,none⟩=some (.int .i64 op)∧(W.drew.alloc (.cells #[.int .i64 op,.int .i64 d,.int .i64 a,.int .i64 b,.int .i64 n] 50)).cell? ⟨w.heap.size,1,none⟩=some (.int .i64 d)∧(W.drew.alloc (.cells #[.int .i64 op,.int .i64 d,.int .i64 a,.int .i64 b,.int .i64 n] 50)).cell? ⟨w.heap.size,2,none⟩=some (.int .i64 a)∧(W.drew.alloc (.cells #[.int .i64 op,.int .i64 d,.int .i64 a,.int .i64 b,.int .i64 n] 50)).cell? ⟨w.heap.size,3,none⟩=some (.int .i64 b)∧(W.drew.alloc (.cells #[.int .i64 op,.int .i64 d,.int .i64 a,.int .i64 b,.int .i64 n] 50)).cell? ⟨w.heap.size,4,none⟩=some (.int .i64 n) :=
  ⟨(World.cell?_alloc_lt _ _ _ (by show bb<W.heap.size;omega)).trans c1,(World.cell?_alloc_lt _ _ _ hz).trans r0,(World.cell?_alloc_lt _ _ _ hz).trans r1,(World.cell?_alloc_lt _ _ _ hz).trans r2,(World.cell?_alloc_lt _ _ _ hz).trans r3,(World.cell?_alloc_lt _ _ _ hz).trans r4⟩
 have hS:W.drew.cell? ⟨bb,1,none⟩=some (.slice Ac code.length cc)∧W.drew.cell? ⟨w.heap.size,0,none⟩=some (.int .i64 op)∧W.drew.cell? ⟨w.heap.size,1,none⟩=some (.int .i64 d)∧W.drew.cell? ⟨w.heap.size,2,none⟩=some (.int .i64 a)∧W.drew.cell? ⟨w.heap.size,3,none⟩=some (.int .i64 b)∧W.drew.cell? ⟨w.heap.size,4,none⟩=some (.int .i64 n):=⟨c1,r0,r1,r2,r3,r4⟩;refine Bl [6,7,10] [4,5] [6] 11 (fun wq:World=>wq.cell? ⟨bb,1,none⟩=some (.slice Ac code.length cc)∧wq.cell? ⟨w.heap.size,0,none⟩=some (.int .i64 op)∧wq.cell? ⟨w.heap.size,1,none⟩=some (.int .i64 d)∧wq.cell? ⟨w.heap.size,2,none⟩=some (.int .i64 a)∧wq.cell? ⟨w.heap.size,3,none⟩=some (.int .i64 b)∧wq.cell? ⟨w.heap.size,4,none⟩=some (.int .i64 n)) ?_
 iterate 6 (first|refine Ai ?_|refine An hS ?_)
 refine Aq fun K hK=>?_;go_simp
 refine hK _ _ (fun _=>hS2) ?_;clear hK K;refine Aq fun K hK=>?_
 refine Ep _ rfl (.tmp 8) (.tmp 10) _ rfl 50 i0 _ 5 40 Tryz.underlying32 hi0 hi1 hi2 hi3 rfl (by decide) 0 _ _ _ rfl HA.out.code (Nat.zero_le _) _ _ 1 1 [.int .i64 op,.int .i64 d,.int .i64 a,.int .i64 b,.int .i64 n] rfl (Reads.blk (cs:=[.int .i64 op,.int .i64 d,.int .i64 a,.int .i64 b,.int .i64 n]) (Blk.new _ _ _) 5 1 rfl) (by simp[Value.oneCell']) (by unfold maxLen;omega) (by omega) ?_;intro v' w6 hrow hg hnew;rw[←HRC.out,show code.length+1=(code++[⟨op,d,a,b,n⟩]:List Sr.Reg).length by simp] at hrow;obtain⟨hb6,hB6,hF6⟩:=HA.out.pushed hrow hg (by have:=FA.out.below.size;omega) hnew;have HP:Hid (BuPost w B bb pv ps (code++[⟨op,d,a,b,n⟩]) (.returned (.tuple #[])) (w6.setCell ⟨bb,1,none⟩ v')):=Aa ⟨rfl,⟨_,hB6⟩,FA.out.trans hF6⟩;obtain⟨Av,cv',hve,_⟩:=Ae hrow;rw[List.length_append,List.length_singleton] at hve;have b1:=hb6.cell 1;have bf:=hb6.frozen 1;have bl:=hb6.lt;simp only[List.getElem?_toArray,List.getElem?_cons_zero,List.getElem?_cons_succ] at b1;subst hve;clear hb6 hB6 hF6 hrow hg hnew;refine Aj hK ?_;clear hK K
 iterate 2 (first|refine Ai ?_|refine An hS ?_)
 refine Aq fun K hK=>?_;go_simp
 refine Aj hK ?_;clear hK K;refine Ah ?_;go_wp2;go_end0;exact HP.out
end Go.Proofs.YtnhebmgibiomnaaGreat
namespace Go.Proofs.YtnhebmgibiomnaaGreat
open Go.RowKit Mc
theorem BuPost.from_ {w w1 w2:World} {B bb:Nat} {pv:Value} {ps:List Bu.Plan} {code:List Sr.Reg} {e:Ending} (hf:FrT B w w1) (h:BuPost w1 B bb pv ps code e w2):BuPost w B bb pv ps code e w2:=⟨h.1,h.2.1,hf.trans h.2.2⟩
theorem Ua (w:World) (B bb:Nat) (pv cv:Value) (ps:List Bu.Plan) (code:List Sr.Reg) (h:BuL w B bb pv cv ps code) (hB:B≤w.heap.size) (hl:code.length<1000000) (op x top second:Int) :
  Calls Tryz.prog 90 #[.pointer (some ⟨bb,0,none⟩),.agg #[.int .i64 op,.int .i64 x],.int .i64 top,.int .i64 second] w (BuPost w B bb pv ps (code++Bu.plainE (op,x) top second)):=by
 have HA:=Aa (h.alloc (.cells #[.int .i64 op,.int .i64 x] 96));have FA:=Aa ((FrT.refl B w).alloc hB (.cells #[.int .i64 op,.int .i64 x] 96));have HPUT:=Aa (fun r=>(Cr _ B bb pv cv ps code HA.out (by simp;omega) hl r).mono fun _ _ hp=>BuPost.from_ FA.out hp);have hz:=h.blk.lt;clear h;generalize hu:Sr.uses op=u at *;obtain⟨u,ok⟩:=u;have HU:=Aa hu;clear hu;by_cases h3:u=3
 ·subst h3;have HQ:=Aa (show Bu.plainE (op,x) top second=[⟨op,top,top,0,0⟩] by unfold Bu.plainE;simp only[HU.out];rfl);rw[HQ.out];go_enter Tryz.func90,Tryz.ntmps90;go_wp2_with fail
  refine(Fx _ _).mono ?_;rintro e w9 ⟨rfl,rfl⟩;rw[HU.out];go_wp2_with fail
  refine(HPUT.out ⟨op,top,top,0,0⟩).mono ?_;intro e w9 hp;have HP:=Aa hp;obtain⟨rfl,_⟩:=hp;go_wp2;go_end0;exact HP.out
 ·by_cases h7:u=7
  ·subst h7;have HQ:=Aa (show Bu.plainE (op,x) top second=[⟨op,second,second,top,0⟩] by unfold Bu.plainE;simp only[HU.out];rfl);rw[HQ.out];go_enter Tryz.func90,Tryz.ntmps90;go_wp2_with fail
   refine(Fx _ _).mono ?_;rintro e w9 ⟨rfl,rfl⟩;rw[HU.out];go_wp2_with fail
   refine(HPUT.out ⟨op,second,second,top,0⟩).mono ?_;intro e w9 hp;have HP:=Aa hp;obtain⟨rfl,_⟩:=hp;go_wp2;go_end0;exact HP.out
  ·by_cases h6:u=6
   ·subst h6;have HQ:=Aa (show Bu.plainE (op,x) top second=[⟨op,0,second,top,0⟩] by unfold Bu.plainE;simp only[HU.out];rfl);rw[HQ.out];go_enter Tryz.func90,Tryz.ntmps90;go_wp2_with fail
    refine(Fx _ _).mono ?_;rintro e w9 ⟨rfl,rfl⟩;rw[HU.out];go_wp2_with fail
    refine(HPUT.out ⟨op,0,second,top,0⟩).mono ?_;intro e w9 hp;have HP:=Aa hp;obtain⟨rfl,_⟩:=hp;go_wp2;go_end0;exact HP.out
   ·have HQ:=Aa (show Bu.plainE (op,x) top second=[⟨op,0,0,0,x⟩] by unfold Bu.plainE;simp only[HU.out];rw[if_neg h3,if_neg h7,if_neg h6]);rw[HQ.out];have b3:(u==3)=false:=by simpa using h3
    have b7:(u==7)=false:=by simpa using h7
    have b6:(u==6)=false:=by simpa using h6
    go_enter Tryz.func90,Tryz.ntmps90;go_wp2_with fail
    refine(Fx _ _).mono ?_;rintro e w9 ⟨rfl,rfl⟩;rw[HU.out];go_wp2_with fail
    refine(HPUT.out ⟨op,0,0,0,x⟩).mono ?_;intro e w9 hp;have HP:=Aa hp;obtain⟨rfl,_⟩:=hp;go_wp2;go_end0;exact HP.out
theorem ps_rel {N0:Nat} {w:World} {B:Nat} {s:Bu.PS} {cs:List Value} (h:(psR N0).rel w B s cs):cs=[.int .i64 s.op,.int .i64 s.a,.int .i64 s.high,.int .i64 (s.go:Int)]:=by
 obtain⟨x1,y1,rfl,⟨rfl,_⟩,x2,y2,rfl,⟨rfl,_⟩,x3,y3,rfl,⟨rfl,_⟩,rfl,_⟩:=h;rfl
theorem Qv {N0:Nat} {w:World} {B:Nat} {p:Bu.Plan} {cs:List Value} (h:(Ih N0).rel w B p cs):∃ A c,cs=[.slice A p.steps.length c,.int .i64 p.size]∧RowAt (psR N0) 145 w B A p.steps:=by
 obtain⟨x,y,rfl,⟨A,c,rfl,_,_,hr⟩,rfl,_⟩:=h;exact⟨A,c,rfl,hr⟩
def EmB (j:Nat) (high loops:Int):Prop:=-100000≤high-100*(j+1)∧high+100*(j+1)≤100000∧0≤loops∧loops+j≤100000
def EmS (k:Nat) (next loops:Int):Prop:=-100000≤next-1-100*k∧next+1+100*k≤100000∧0≤loops∧loops+k≤100000
def Rz (es:List Bu.Emit) (ps:List Bu.Plan) (j:Nat):Prop :=
 ∀ (w:World) (B bb:Nat) (pv cv:Value) (code:List Sr.Reg) (p:Bu.Plan) (A:Option Addr) (c:Nat) (high loops:Int),ps[j]?=some p→BuL w B bb pv cv ps code→B≤w.heap.size→RowAt (psR 0) 145 w w.heap.size A p.steps→EmB j high loops→code.length+(Bu.em es j high loops).length≤1000000 →
  Calls Tryz.prog 35 #[.pointer (some ⟨bb,0,none⟩),.agg #[.slice A p.steps.length c,.int .i64 p.size],.int .i64 high,.int .i64 loops] w (BuPost w B bb pv ps (code++Bu.em es j high loops))
def Zcf (es:List Bu.Emit) (ps:List Bu.Plan) (j:Nat):Prop :=
 ∀ (w:World) (B bb:Nat) (pv cv:Value) (code:List Sr.Reg) (p:Bu.Plan) (A:Option Addr) (c:Nat) (top loops:Int),ps[j]?=some p→BuL w B bb pv cv ps code→B≤w.heap.size→RowAt (psR 0) 145 w w.heap.size A p.steps→EmB j top (loops+1)→0≤loops→code.length+(Bu.loopE (Bu.em es j top (loops+1)) top loops).length≤1000000 →
  Calls Tryz.prog 89 #[.pointer (some ⟨bb,0,none⟩),.agg #[.slice A p.steps.length c,.int .i64 p.size],.int .i64 top,.int .i64 loops] w (BuPost w B bb pv ps (code++Bu.loopE (Bu.em es j top (loops+1)) top loops))
theorem Yk (w:World) (B bb:Nat) (pv cv:Value) (ps:List Bu.Plan) (code:List Sr.Reg) (h:BuL w B bb pv cv ps code) (hB:B≤w.heap.size) (es:List Bu.Emit) (op x next loops:Int) (k:Nat) (hk:k≤ps.length) (hE:∀ j,j<k→Rz es ps j) (hL:∀ j,j<k→Zcf es ps j) (hc:(op=37∨op=38)→0≤x∧x<k) (hb:EmS k next loops) (hlen:code.length+(Bu.stepE es (op,x) next loops).length≤1000000) :
  Calls Tryz.prog 66 #[.pointer (some ⟨bb,0,none⟩),.agg #[.int .i64 op,.int .i64 x],.int .i64 next,.int .i64 loops] w (BuPost w B bb pv ps (code++Bu.stepE es (op,x) next loops)):=by
 obtain⟨hb1,hb2,hb3,hb4⟩:=hb;have hk0:(0:Int)≤k:=by omega
 by_cases hop:op=2
 ·subst hop;have HQ:=Aa (show Bu.stepE es (2,x) next loops=[] from rfl);rw[HQ.out,List.append_nil] at *;have HP:Hid (BuPost w B bb pv ps code (.returned (.tuple #[])) (w.alloc (.cells #[.int .i64 2,.int .i64 x] 96))):=Aa ⟨rfl,⟨_,h.alloc _⟩,(FrT.refl B w).alloc hB _⟩;clear h hE hL hlen;go_enter Tryz.func66,Tryz.ntmps66;go_wp2;go_end0;exact HP.out
 by_cases hop:op=1
 ·subst hop;have HQ:=Aa (show Bu.stepE es (1,x) next loops=[⟨1,next,0,0,x⟩] from rfl);rw[HQ.out] at hlen ⊢;simp only[List.length_cons,List.length_nil] at hlen;have HA:=Aa (h.alloc (.cells #[.int .i64 1,.int .i64 x] 96));have FA:=Aa ((FrT.refl B w).alloc hB (.cells #[.int .i64 1,.int .i64 x] 96));have HPUT:=Aa (fun r=>(Cr _ B bb pv cv ps code HA.out (by simp;omega) (by omega) r).mono fun _ _ hp=>BuPost.from_ FA.out hp);have hz:=h.blk.lt;clear h hE hL;go_enter Tryz.func66,Tryz.ntmps66;go_wp2_with fail
  refine(HPUT.out ⟨1,next,0,0,x⟩).mono ?_;intro e w9 hp;have HP:=Aa hp;obtain⟨rfl,_⟩:=hp;go_wp2;go_end0;exact HP.out
 by_cases hop:op=39
 ·subst hop;have HQ:=Aa (show Bu.stepE es (39,x) next loops=[⟨39,next,0,0,0⟩] from rfl);rw[HQ.out] at hlen ⊢;simp only[List.length_cons,List.length_nil] at hlen;have HA:=Aa (h.alloc (.cells #[.int .i64 39,.int .i64 x] 96));have FA:=Aa ((FrT.refl B w).alloc hB (.cells #[.int .i64 39,.int .i64 x] 96));have HPUT:=Aa (fun r=>(Cr _ B bb pv cv ps code HA.out (by simp;omega) (by omega) r).mono fun _ _ hp=>BuPost.from_ FA.out hp);have hz:=h.blk.lt;clear h hE hL;go_enter Tryz.func66,Tryz.ntmps66;go_wp2_with fail
  refine(HPUT.out ⟨39,next,0,0,0⟩).mono ?_;intro e w9 hp;have HP:=Aa hp;obtain⟨rfl,_⟩:=hp;go_wp2;go_end0;exact HP.out
 by_cases hop:op=3
 ·subst hop;have HQ:=Aa (show Bu.stepE es (3,x) next loops=[⟨40,next,next-1,0,0⟩] from rfl);rw[HQ.out] at hlen ⊢;simp only[List.length_cons,List.length_nil] at hlen;have HA:=Aa (h.alloc (.cells #[.int .i64 3,.int .i64 x] 96));have FA:=Aa ((FrT.refl B w).alloc hB (.cells #[.int .i64 3,.int .i64 x] 96));have HPUT:=Aa (fun r=>(Cr _ B bb pv cv ps code HA.out (by simp;omega) (by omega) r).mono fun _ _ hp=>BuPost.from_ FA.out hp);have hz:=h.blk.lt;clear h hE hL;go_enter Tryz.func66,Tryz.ntmps66;go_wp2_with fail
  refine(HPUT.out ⟨40,next,next-1,0,0⟩).mono ?_;intro e w9 hp;have HP:=Aa hp;obtain⟨rfl,_⟩:=hp;go_wp2;go_end0;exact HP.out
 by_cases hop:op=35
 ·subst hop;have HQ:=Aa (show Bu.stepE es (35,x) next loops=[⟨35,0,0,0,0⟩] from rfl);rw[HQ.out] at hlen ⊢;simp only[List.length_cons,List.length_nil] at hlen;have HA:=Aa (h.alloc (.cells #[.int .i64 35,.int .i64 x] 96));have FA:=Aa ((FrT.refl B w).alloc hB (.cells #[.int .i64 35,.int .i64 x] 96));have HPUT:=Aa (fun r=>(Cr _ B bb pv cv ps code HA.out (by simp;omega) (by omega) r).mono fun _ _ hp=>BuPost.from_ FA.out hp);have hz:=h.blk.lt;clear h hE hL;go_enter Tryz.func66,Tryz.ntmps66;go_wp2_with fail
  refine(HPUT.out ⟨35,0,0,0,0⟩).mono ?_;intro e w9 hp;have HP:=Aa hp;obtain⟨rfl,_⟩:=hp;go_wp2;go_end0;exact HP.out
 by_cases hop:op=36
 ·subst hop;have HQ:=Aa (show Bu.stepE es (36,x) next loops=[⟨36,0,next-1,0,0⟩] from rfl);rw[HQ.out] at hlen ⊢;simp only[List.length_cons,List.length_nil] at hlen;have HA:=Aa (h.alloc (.cells #[.int .i64 36,.int .i64 x] 96));have FA:=Aa ((FrT.refl B w).alloc hB (.cells #[.int .i64 36,.int .i64 x] 96));have HPUT:=Aa (fun r=>(Cr _ B bb pv cv ps code HA.out (by simp;omega) (by omega) r).mono fun _ _ hp=>BuPost.from_ FA.out hp);have hz:=h.blk.lt;clear h hE hL;go_enter Tryz.func66,Tryz.ntmps66;go_wp2_with fail
  refine(HPUT.out ⟨36,0,next-1,0,0⟩).mono ?_;intro e w9 hp;have HP:=Aa hp;obtain⟨rfl,_⟩:=hp;go_wp2;go_end0;exact HP.out
 by_cases hop:op=4
 ·subst hop;have HQ:=Aa (show Bu.stepE es (4,x) next loops=[⟨40,63,next-1,0,0⟩,⟨40,next-1,next-2,0,0⟩,⟨40,next-2,63,0,0⟩] from rfl);rw[HQ.out] at hlen ⊢;simp only[List.length_cons,List.length_nil] at hlen;have H:=Aa (h.alloc (.cells #[.int .i64 4,.int .i64 x] 96));have F:=Aa ((FrT.refl B w).alloc hB (.cells #[.int .i64 4,.int .i64 x] 96));have hz:=h.blk.lt;clear h hE hL;go_enter Tryz.func66,Tryz.ntmps66;go_wp2_with fail
  refine(Cr _ B bb pv cv ps code H.out (by simp;omega) (by omega) ⟨40,63,next-1,0,0⟩).mono ?_;rintro e w7 ⟨rfl,⟨cv7,hl7⟩,hf7⟩;have H7:=Aa hl7;have F7:=Aa (F.out.trans hf7);have hz7:=F7.out.below.size;clear H F hl7 hf7;go_wp2_with fail
  refine(Cr _ B bb pv cv7 ps _ H7.out (by omega) (by simp;omega) ⟨40,next-1,next-2,0,0⟩).mono ?_;rintro e w8 ⟨rfl,⟨cv8,hl8⟩,hf8⟩;have H8:=Aa hl8;have F8:=Aa (F7.out.trans hf8);have hz8:=F8.out.below.size;clear H7 F7 hl8 hf8;go_wp2_with fail
  refine(Cr _ B bb pv cv8 ps _ H8.out (by omega) (by simp;omega) ⟨40,next-2,63,0,0⟩).mono ?_;rintro e w9 ⟨rfl,⟨cv9,hl9⟩,hf9⟩;have HP:Hid (BuPost w B bb pv ps (code++[⟨40,63,next-1,0,0⟩,⟨40,next-1,next-2,0,0⟩,⟨40,next-2,63,0,0⟩]) (.returned (.tuple #[])) w9):=Aa ⟨rfl,⟨cv9,by simpa using hl9⟩,F8.out.trans hf9⟩;clear H8 F8 hl9 hf9;go_wp2;go_end0;exact HP.out
 by_cases h37:op=37∨op=38
 ·obtain⟨hx0,hxk⟩:=hc h37;obtain⟨i,rfl⟩:∃ i:Nat,x=i:=⟨x.toNat,by omega⟩;have hik:i<k:=by omega
  obtain⟨p,hp⟩:∃ p,ps[i]?=some p:=⟨_,List.getElem?_eq_getElem (by omega)⟩;obtain⟨Ap,cp,hpv,hrow⟩:=(h.alloc (.cells #[.int .i64 op,.int .i64 (i:Int)] 96)).ps;obtain⟨gb,goff,cs,rfl,hgb,hrel,hcells⟩:=hrow.get hp;obtain⟨As,cc,rfl,hst⟩:=Qv hrel;have d0:=hcells 0 _ rfl;have d1:=hcells 1 _ rfl;simp only[Ih,Repr.map,Repr.pair,Repr.row,Repr.int,Nat.add_zero] at d0 d1;have hpl:(i:Int)<ps.length:=by omega
  have HST:=Aa hst;have HPP:=Aa hp;subst hpv;have HA:=Aa (h.alloc (.cells #[.int .i64 op,.int .i64 (i:Int)] 96));have FA:=Aa ((FrT.refl B w).alloc hB (.cells #[.int .i64 op,.int .i64 (i:Int)] 96));have r0:(w.alloc (.cells #[.int .i64 op,.int .i64 (i:Int)] 96)).cell? ⟨w.heap.size,0,none⟩=some (.int .i64 op):=(Blk.new w _ _).cell 0;have r1:(w.alloc (.cells #[.int .i64 op,.int .i64 (i:Int)] 96)).cell? ⟨w.heap.size,1,none⟩=some (.int .i64 (i:Int)):=(Blk.new w _ _).cell 1;have b0:=Ab HA.out.blk 0 rfl;have hzl:w.heap.size<(w.alloc (.cells #[.int .i64 op,.int .i64 (i:Int)] 96)).heap.size:=by simp
  have hlb:=HA.out.blk.lt;have HE:=Aa (hE i hik);have HL:=Aa (hL i hik);clear h hE hL hp hrel hcells hst hc hx0 hxk hrow;rcases h37 with rfl|rfl
  ·have HQ:=Aa (show Bu.stepE es (37,(i:Int)) next loops=Bu.em es i next loops from rfl);rw[HQ.out] at hlen ⊢;go_enter Tryz.func66,Tryz.ntmps66;go_wp2_with fail
   generalize (w.alloc (.cells #[.int .i64 37,.int .i64 (i:Int)] 96))=W at *;have hS:W.drew.cell? ⟨bb,0,none⟩=some (.slice (some ⟨gb,goff,none⟩) ps.length cp)∧W.drew.cell? ⟨w.heap.size,1,none⟩=some (.int .i64 (i:Int))∧W.drew.cell? ⟨gb,goff+i*2,none⟩=some (.slice As p.steps.length cc)∧W.drew.cell? ⟨gb,goff+i*2+1,none⟩=some (.int .i64 p.size):=⟨b0,r1,d0,d1⟩;refine Bl [11] [4,6,8] [] 12 (fun wq:World=>wq.cell? ⟨bb,0,none⟩=some (.slice (some ⟨gb,goff,none⟩) ps.length cp)∧wq.cell? ⟨w.heap.size,1,none⟩=some (.int .i64 (i:Int))∧wq.cell? ⟨gb,goff+i*2,none⟩=some (.slice As p.steps.length cc)∧wq.cell? ⟨gb,goff+i*2+1,none⟩=some (.int .i64 p.size)) ?_
   iterate 11 (first|refine Ai ?_|refine An hS ?_)
   refine Aq fun K hK=>?_;go_simp
   refine(HE.out W.drew B bb _ cv code p As cc next loops HPP.out HA.out.drew (by show B≤W.heap.size;omega) HST.out ⟨by omega,by omega,by omega,by omega⟩ hlen).mono ?_;intro e w9 hp;have HP:=Aa (hp.from_ FA.out.drew);obtain⟨rfl,_⟩:=hp;dsimp only;refine Aj hK ?_;clear hK K;refine Ah ?_;go_wp2;go_end0;exact HP.out
  ·have HQ:=Aa (show Bu.stepE es (38,(i:Int)) next loops=Bu.loopE (Bu.em es i (next-1) (loops+1)) (next-1) loops from rfl);rw[HQ.out] at hlen ⊢;go_enter Tryz.func66,Tryz.ntmps66;go_wp2_with fail
   generalize (w.alloc (.cells #[.int .i64 38,.int .i64 (i:Int)] 96))=W at *;have hS:W.drew.cell? ⟨bb,0,none⟩=some (.slice (some ⟨gb,goff,none⟩) ps.length cp)∧W.drew.cell? ⟨w.heap.size,1,none⟩=some (.int .i64 (i:Int))∧W.drew.cell? ⟨gb,goff+i*2,none⟩=some (.slice As p.steps.length cc)∧W.drew.cell? ⟨gb,goff+i*2+1,none⟩=some (.int .i64 p.size):=⟨b0,r1,d0,d1⟩;refine Bl [11] [4,6,8] [] 12 (fun wq:World=>wq.cell? ⟨bb,0,none⟩=some (.slice (some ⟨gb,goff,none⟩) ps.length cp)∧wq.cell? ⟨w.heap.size,1,none⟩=some (.int .i64 (i:Int))∧wq.cell? ⟨gb,goff+i*2,none⟩=some (.slice As p.steps.length cc)∧wq.cell? ⟨gb,goff+i*2+1,none⟩=some (.int .i64 p.size)) ?_
   iterate 11 (first|refine Ai ?_|refine An hS ?_)
   refine Aq fun K hK=>?_;go_simp
   refine(HL.out W.drew B bb _ cv code p As cc (next-1) loops HPP.out HA.out.drew (by show B≤W.heap.size;omega) HST.out ⟨by omega,by omega,by omega,by omega⟩ hb3 hlen).mono ?_;intro e w9 hp;have HP:=Aa (hp.from_ FA.out.drew);obtain⟨rfl,_⟩:=hp;dsimp only;refine Aj hK ?_;clear hK K;refine Ah ?_;go_wp2;go_end0;exact HP.out
 ·have n37:¬ op=37:=fun e=>h37 (.inl e)
  have n38:¬ op=38:=fun e=>h37 (.inr e)
  have hq:Bu.stepE es (op,x) next loops=Bu.plainE (op,x) (next-1) (next-2):=by
   unfold Bu.stepE;simp only
   repeat rw[if_neg ‹_›]
  have hpl:1≤(Bu.plainE (op,x) (next-1) (next-2)).length:=by
   unfold Bu.plainE
   repeat' split
   all_goals simp
  rw[hq] at hlen ⊢;have HA:=Aa (h.alloc (.cells #[.int .i64 op,.int .i64 x] 96));have FA:=Aa ((FrT.refl B w).alloc hB (.cells #[.int .i64 op,.int .i64 x] 96));have HPL:=Aa ((Ua _ B bb pv cv ps code HA.out (by simp;omega) (by omega) op x (next-1) (next-2)).mono fun _ _ hp=>BuPost.from_ FA.out hp);have hz:=h.blk.lt;clear h hE hL hq hpl hc h37;go_enter Tryz.func66,Tryz.ntmps66;go_wp2_with fail
  refine HPL.out.mono ?_;intro e w9 hp;have HP:=Aa hp;obtain⟨rfl,_⟩:=hp;go_wp2;go_end0;exact HP.out
theorem Pu {α:Type}:∀ (ls:List (List α)) (u:Nat) (r:α) (q:List α),ls[u]?=some (r::q)→ls.flatten[(ls.take u).flatten.length]?=some r∧∀ r',ls.flatten.set (ls.take u).flatten.length r'=(ls.set u (r'::q)).flatten
 | [],u,r,q,h=>by simp at h
 | l::ls,0,r,q,h=>by
  simp only[List.getElem?_cons_zero,Option.some.injEq] at h;subst h;exact⟨by simp,fun r'=>by simp⟩
 | l::ls,u+1,r,q,h=>by
  simp only[List.getElem?_cons_succ] at h;obtain⟨h1,h2⟩:=Pu ls u r q h;refine⟨?_,fun r'=>?_⟩
  ·simp only[List.take_succ_cons,List.flatten_cons,List.length_append];rw[List.getElem?_append_right (by omega),Nat.add_sub_cancel_left];exact h1
  ·simp only[List.take_succ_cons,List.flatten_cons,List.length_append,List.set_cons_succ];rw[List.set_append_right _ _ (by omega),Nat.add_sub_cancel_left,h2]
theorem Gu:∀ (l:List Sr.Reg) (i:Nat) (r:Sr.Reg) (v:Int),l[i]?=some r→Ba (l.set i { r with n:=v })=(Ba l).set (i*5+4) (.int .i64 v)
 | [],i,r,v,h=>by simp at h
 | x::l,0,r,v,h=>by
  simp only[List.getElem?_cons_zero,Option.some.injEq] at h;subst h;rfl
 | x::l,i+1,r,v,h=>by
  simp only[List.getElem?_cons_succ] at h;have:=Gu l i r v h;rw[show (i+1)*5+4=(i*5+4)+1+1+1+1+1 by omega];simp only[List.set_cons_succ,Ba,this]
theorem FrT.grown {B:Nat} {w W W':World} {row:Option Nat} (h:FrT B w W) (hg:W.grownBy W' row) (hB:B≤w.heap.size) (hr:∀ r,row=some r→w.heap.size≤r):FrT B w W' :=
 ⟨h.below.grown hg (by have:=h.below.size;omega) (fun r e=>by have:=hr r e;omega),fun i t cs fz e h1 h2=>by
  have e1:=h.keep i t cs fz e h1 h2;exact(hg.block i (Array.getElem?_eq_some_iff.1 e1).1 (fun e2=>by have:=hr i e2.symm;have:=(Array.getElem?_eq_some_iff.1 e).1;omega)).trans e1⟩
theorem RowAt.frT {N0:Nat} {α:Type} {R:Repr N0 α} {t:TypeId} {B:Nat} {w w':World} {A:Option Addr} {l:List α} (h:RowAt R t w w.heap.size A l) (hf:FrT B w w') (h0:N0=0) (h1:86 ∉ t::R.tys) (h2:50 ∉ t::R.tys):RowAt R t w' w'.heap.size A l :=
 (h.keep fun g t' xs fz _ ht hh=>by
  rcases ht with ht|ht
  ·omega
  ·exact hf.keep g t' xs fz hh (fun e=>h1 (e ▸ ht)) (fun e=>h2 (e ▸ ht))).more hf.below.size
theorem BuL.grown {w w':World} {B bb:Nat} {pv cv:Value} {ps:List Bu.Plan} {code:List Sr.Reg} (h:BuL w B bb pv cv ps code) {v:Value} {n size base:Nat} {t:TypeId} {xs:List Value} (hv:w.ownsRow base t size v n xs) (hg:w.grownBy w' v.ownBlock) (ht:t ∉ [86,50,89,145]):BuL w' B bb pv cv ps code:=by
 simp only[List.mem_cons,not_or,List.not_mem_nil,not_false_eq_true,and_true] at ht;obtain⟨t1,t2,t3,t4⟩:=ht;refine⟨h.blk.grown hg fun e=>?_,?_,Fk h.code hg (Fc h.code hv (fun e=>t2 e.symm)),h.base,h.own⟩
 ·obtain⟨_,_,cs,hb⟩:=Ag hv e.symm;exact h.blk.ne_ hb (fun e=>t1 e.symm) rfl
 ·obtain⟨A,c,e,hr⟩:=h.ps;refine⟨A,c,e,(hr.keep fun g t' xs' fz _ hm hh=>?_).more hg.size⟩;rw[hg.block g (Array.getElem?_eq_some_iff.1 hh).1 (fun e2=>?_)]
  ·exact hh
  ·obtain⟨_,_,cs,hb⟩:=Ag hv e2.symm;unfold Blk at hb;rw[hh] at hb
   injection hb with hb
   injection hb with _ ht'
   subst ht';rcases hm with hm|hm
   ·omega
   ·simp only[Ih,psR,Repr.map,Repr.pair,Repr.row,Repr.int,List.append_nil,List.mem_cons,List.not_mem_nil,or_false] at hm;rcases hm with hm|hm
    ·exact t3 hm
    ·exact t4 hm
theorem BuL.setN {w:World} {B bb:Nat} {pv cv:Value} {ps:List Bu.Plan} {code:List Sr.Reg} (h:BuL w B bb pv cv ps code) {g:Nat} (hg:cv.ownBlock=some g) {i:Nat} {r:Sr.Reg} (hr:code[i]?=some r) (v:Int) :
  BuL (w.setCell ⟨g,i*5+4,none⟩ (.int .i64 v)) B bb pv cv ps (code.set i { r with n:=v })∧FrT B w (w.setCell ⟨g,i*5+4,none⟩ (.int .i64 v)):=by
 obtain⟨_,_,cs,hb⟩:=Ag h.code hg;have hi:=(List.getElem?_eq_some_iff.1 hr).1;have hf:FrT B w (w.setCell ⟨g,i*5+4,none⟩ (.int .i64 v)):=⟨(Below.refl B w).setCell (p:=⟨g,i*5+4,none⟩) (h.own g hg) _,fun k t cs' fz e h1 h2=>Gs hb _ _ k t cs' fz (fun e=>h2 e.symm) e⟩;refine⟨⟨?_,h.ps.fr hf,?_,h.base,h.own⟩,hf⟩
 ·exact h.blk.far (p:=⟨g,i*5+4,none⟩) (h.blk.ne_ hb (by decide)) _
 ·have:=Cg h.code hg (j:=i*5+4) (by rw[Hu];omega) (.int .i64 v);rw[←Gu code i r v hr] at this
  simpa using this
end Go.Proofs.YtnhebmgibiomnaaGreat
namespace Go.Proofs.YtnhebmgibiomnaaGreat
open Go.RowKit Mc
namespace Bu
def blk (body:List Sr.Reg) (loops:Int) (u k:Nat):List Sr.Reg:=⟨41,0,32+loops,(k:Int),if k<u then(16-(k:Int))*(1+body.length)-1 else 0⟩::body
def lp (body:List Sr.Reg) (top loops:Int) (t u:Nat):List Sr.Reg:=⟨40,32+loops,top,0,0⟩::((List.range t).map (blk body loops u)).flatten
theorem lp_done (body:List Sr.Reg) (top loops:Int):lp body top loops 16 16=loopE body top loops:=by
 unfold lp loopE;rw[List.flatMap_def]
 congr 2
theorem lp_succ (body:List Sr.Reg) (top loops:Int) (t:Nat):lp body top loops (t+1) 0=lp body top loops t 0++[⟨41,0,32+loops,(t:Int),0⟩]++body:=by
 unfold lp;rw[List.range_succ,List.map_append,List.flatten_append];simp[blk]
theorem Mg (body:List Sr.Reg) (loops:Int) (u:Nat):∀ (l:List Nat),((l.map (blk body loops u)).flatten).length=l.length*(1+body.length)
 | []=>by simp
 | k::l=>by
  rw[List.map_cons,List.flatten_cons,List.length_append,Mg body loops u l,List.length_cons,Nat.succ_mul];unfold blk;rw[List.length_cons];omega
theorem lp_len (body:List Sr.Reg) (top loops:Int) (t u:Nat):(lp body top loops t u).length=1+t*(1+body.length):=by
 unfold lp;rw[List.length_cons,Mg,List.length_range];omega
theorem lp_set (body:List Sr.Reg) (top loops:Int) (t u:Nat) (h:u<t):(lp body top loops t u)[1+u*(1+body.length)]?=some ⟨41,0,32+loops,(u:Int),0⟩ ∧
  (lp body top loops t u).set (1+u*(1+body.length)) ⟨41,0,32+loops,(u:Int),(16-(u:Int))*(1+body.length)-1⟩=lp body top loops t (u+1):=by
 have hg:((List.range t).map (blk body loops u))[u]?=some (⟨41,0,32+loops,(u:Int),0⟩::body):=by
  rw[List.getElem?_map,List.getElem?_range h];simp[blk]
 obtain⟨h1,h2⟩:=Pu _ u _ _ hg;have hb:(((List.range t).map (blk body loops u)).take u).flatten.length=u*(1+body.length):=by
  rw[←List.map_take,Mg,List.length_take,List.length_range,Nat.min_eq_left (by omega)]
 rw[hb] at h1 h2;unfold lp;rw[show 1+u*(1+body.length)=u*(1+body.length)+1 by omega];refine⟨by simpa using h1,?_⟩;rw[List.set_cons_succ,h2]
 congr 2
 refine List.ext_getElem? fun k=>?_
 rw[List.getElem?_set];by_cases hk:u=k
 ·subst hk;rw[if_pos rfl,if_pos (by simpa using h),List.getElem?_map,List.getElem?_range h];simp[blk]
 ·rw[if_neg hk,List.getElem?_map,List.getElem?_map];cases hr:(List.range t)[k]? with
  | none=>rfl
  | some j =>
   have hj:j=k:=by
    have hl:=(List.getElem?_eq_some_iff.1 hr).1;rw[List.length_range] at hl;rw[List.getElem?_range hl] at hr
    injection hr with hr
    exact hr.symm
   subst hj;simp only[Option.map_some,Option.some.injEq,blk];have:(j<u)=(j<u+1):=by
    apply propext;omega
   simp only[this]
def tests (n0 m:Nat) (t:Nat):List Int:=(List.range t).map fun k=>((n0+1+k*(1+m):Nat):Int)
theorem tests_succ (n0 m t:Nat):tests n0 m (t+1)=tests n0 m t++[((n0+1+t*(1+m):Nat):Int)]:=by unfold tests;rw[List.range_succ,List.map_append];rfl
theorem tests_at (n0 m t k:Nat) (h:k<t):(tests n0 m t)[k]?=some ((n0+1+k*(1+m):Nat):Int):=by unfold tests;rw[List.getElem?_map,List.getElem?_range h];rfl
end Bu
def LoI (w:World) (B bb:Nat) (pv:Value) (ps:List Bu.Plan) (code body:List Sr.Reg) (top loops:Int) (A:Option Addr) (n c:Nat) (z:Int) (v i:Value) (wr:World):Prop :=
 ∃ (t:Nat) (cv:Value),t≤16∧i=.int .i64 (t:Int)∧wr.ownsRow w.heap.size 3 1 v t (ints (Bu.tests code.length body.length t))∧BuL wr B bb pv cv ps (code++Bu.lp body top loops t 0)∧FrT B w wr∧Blk wr w.heap.size 89 #[.slice A n c,.int .i64 z]
def LoJ (w:World) (B bb:Nat) (pv:Value) (ps:List Bu.Plan) (code body:List Sr.Reg) (top loops:Int) (v i:Value) (wr:World):Prop :=
 ∃ (u:Nat) (cv:Value),u≤16∧i=.int .i64 (u:Int)∧wr.ownsRow w.heap.size 3 1 v 16 (ints (Bu.tests code.length body.length 16))∧BuL wr B bb pv cv ps (code++Bu.lp body top loops 16 u)∧FrT B w wr
theorem Yl (es:List Bu.Emit) (ps:List Bu.Plan) (j:Nat) (hE:Rz es ps j):Zcf es ps j:=by
 intro w B bb pv cv code p A c top loops hp h hB hst heb hl0 hlen;generalize hbody:Bu.em es j top (loops+1)=body at *;have hll:=Bu.lp_len body top loops 16 16;rw[Bu.lp_done] at hll;have HDONE:=Aa (Bu.lp_done body top loops);have HST:=Aa hst;have HE:=Aa (fun W cv' code' hB' hW hr hl=>hE W B bb pv cv' code' p A c top (loops+1) hp hB' hW hr heb hl);have HBODY:=Aa hbody;have HA:=Aa (h.alloc (.cells #[.slice A p.steps.length c,.int .i64 p.size] 89));have FA:=Aa ((FrT.refl B w).alloc hB (.cells #[.slice A p.steps.length c,.int .i64 p.size] 89));have HPB:=Aa (Blk.new w 89 #[.slice A p.steps.length c,.int .i64 p.size]);obtain⟨i0,hi0,hi1,hi2,hi3⟩:=Dc Gb;obtain⟨heb1,heb2,heb3,heb4⟩:=heb;have hz:=h.blk.lt;rw[hll] at hlen;clear h hst hE hp hbody hll;go_enter Tryz.func89,Tryz.ntmps89;go_wp2_with fail
 refine(Cr _ B bb pv cv ps code HA.out (by simp;omega) (by omega) ⟨40,32+loops,top,0,0⟩).mono ?_;rintro e w1 ⟨rfl,⟨cv1,hl1⟩,hf1⟩;have HI0:Hid (LoI w B bb pv ps code body top loops A p.steps.length c p.size (.slice none 0 0) (.int .i64 0) w1):=Aa ⟨0,cv1,by omega,rfl,Di _ _ _ _,by simpa [Bu.lp] using hl1,FA.out.trans hf1,hf1.blk HPB.out (by decide) (by decide)⟩;clear hl1 hf1 HA FA HPB;go_wp2_with fail
 go_loopw [9,20] (fun v i wr=>LoI w B bb pv ps code body top loops A p.steps.length c p.size v i wr) (fun _ i _=>16-(intOf i).toNat)
 case atStart=>exact HI0.out
 case round =>
  clear HI0;obtain⟨t,cv2,ht,rfl,htr,hL,hF,hPB⟩:=hrel;have hlpl:=Bu.lp_len body top loops t 0;by_cases hlt:t<16
  ·obtain⟨Ac,cc,hcv,hcc,_⟩:=Ae hL.code;subst hcv;obtain⟨At,ct,hvt,_,_⟩:=Ae htr;subst hvt;have hll:(code++Bu.lp body top loops t 0).length=code.length+1+t*(1+body.length):=by rw[List.length_append,hlpl];omega
   have hmul:t*(1+body.length)+(1+body.length)≤16*(1+body.length):=by
    rw[←Nat.succ_mul];exact Nat.mul_le_mul_right _ (by omega)
   have c1:=Ab hL.blk 1 rfl;rw[hll] at c1;have hlb:=hL.blk.lt;have HTR:=Aa (htr.alloc (.cells #[.int .i64 ((code.length+1+t*(1+body.length):Nat):Int)] 3));have HL:=Aa (hL.alloc (.cells #[.int .i64 ((code.length+1+t*(1+body.length):Nat):Int)] 3));have HF:=Aa (hF.alloc (by have:=hF.below.size;omega) (.cells #[.int .i64 ((code.length+1+t*(1+body.length):Nat):Int)] 3));have HPB:=Aa (hPB.alloc (.cells #[.int .i64 ((code.length+1+t*(1+body.length):Nat):Int)] 3));have HLL:=Aa hll;have hzw:=hF.below.size;generalize hM:code.length+1+t*(1+body.length)=M at *;have HM:=Aa hM;have hM2:M+(1+body.length)≤1000000:=by omega
   clear hll htr hL hF hPB hlpl hmul hM;go_wp2_with (at_builtin;refine Br _ rfl (.tmp 23) (.tmp 29) _ rfl w.heap.size 3 i0 _ 1 8 Tryz.underlying22 hi0 hi1 hi2 hi3 rfl (show 0<1 by decide) (.slice At t ct) t _ rfl HTR.out _ _ 1 1 [.int .i64 (M:Int)] rfl (Reads.blk (cs:=[.int .i64 (M:Int)]) (Blk.new _ _ _) 1 1 rfl) (by simp[Value.oneCell']) (by unfold maxLen;omega) (by omega) (by simp;omega) ?_;intro v' w2 ho2 hg2 hn2)
   have hL2:=HL.out.grown HTR.out hg2 (by decide);have hF2:=HF.out.grown hg2 hB (fun r e=>(Ag HTR.out e).1);have hP2:=HPB.out.grown hg2 fun e=>by have:=(Ag HTR.out e.symm).2.2;obtain⟨cs,hb⟩:=this;exact HPB.out.ne_ hb (by decide) rfl
   obtain⟨Av,cv3,hv3,_⟩:=Ae ho2;subst hv3;have hts:(ints (Bu.tests code.length body.length t)++[.int .i64 (M:Int)]:List Value)=ints (Bu.tests code.length body.length (t+1)):=by
    rw[Bu.tests_succ,HM.out];unfold ints;simp
   rw[hts] at ho2;have HO2:=Aa ho2;have HF2:=Aa hF2;have HP2:=Aa hP2;have hzw2:=hF2.below.size;refine(Cr _ B bb pv _ ps _ hL2 (by omega) (by rw[HLL.out];omega) ⟨41,0,32+loops,(t:Int),0⟩).mono ?_;rintro e w3 ⟨rfl,⟨cv4,hl4⟩,hf4⟩;have hF3:=HF2.out.trans hf4;have hP3:=hf4.blk HP2.out (by decide) (by decide);have ho3:w3.ownsRow w.heap.size 3 1 (.slice Av (t+1) cv3) (t+1) (ints (Bu.tests code.length body.length (t+1))):=Bo HO2.out fun g e=>by
    obtain⟨_,_,cs,hb⟩:=Ag HO2.out e;exact(hf4.blk hb (by decide) (by decide)).trans hb.symm
   have HC:=Aa (HE.out w3 _ _ hl4 (by have:=hF3.below.size;omega) (HST.out.frT hF3 rfl (by decide) (by decide)) (by rw[HBODY.out,List.length_append,HLL.out,List.length_singleton];omega));have HF3:=Aa hF3;have HO3:=Aa ho3;have HP3:=Aa hP3;have p0:=Ab hP3 0 rfl;have p1:=Ab hP3 1 rfl;have hlp3:=hP3.lt;clear hL2 hF2 hP2 ho2 hg2 hn2 hts hl4 hf4 hF3 ho3 hP3 HL HF HPB HTR HO2 HF2 HP2 c1 hlb;go_wp2_with fail
   refine HC.out.mono ?_;rintro e w4 ⟨rfl,⟨cv5,hl5⟩,hf5⟩;have HR:Hid (LoI w B bb pv ps code body top loops A p.steps.length c p.size (.slice Av (t+1) cv3) (.int .i64 ((t:Int)+1)) w4):=Aa ⟨t+1,cv5,by omega,by simp,Bo HO3.out fun g e=>by
    obtain⟨_,_,cs,hb⟩:=Ag HO3.out e;exact(hf5.blk hb (by decide) (by decide)).trans hb.symm,by
    rw[Bu.lp_succ];rw[HBODY.out] at hl5
    simpa using hl5,HF3.out.trans hf5,hf5.blk HP3.out (by decide) (by decide)⟩
   clear hl5 hf5 HC HF3 HO3 HP3 p0 p1 hlp3;go_wp2;go_roundw
   case rel=>exact HR.out
   case measure=>simp[intOf];omega
  ·obtain rfl:t=16:=by omega
   obtain⟨At,ct,hvt,_,_⟩:=Ae htr;subst hvt;have HJ0:Hid (LoJ w B bb pv ps code body top loops (.slice At 16 ct) (.int .i64 0) wr):=Aa ⟨0,cv2,by omega,rfl,htr,hL,hF⟩;clear htr hL hF hPB hlpl hlt ht HE HST;go_wp2_with fail
   rw[show ((16:Nat):Int)=16 from rfl];go_loopw [45] (fun i wr=>LoJ w B bb pv ps code body top loops (.slice At 16 ct) i wr) (fun i _=>16-(intOf i).toNat)
   case atStart=>exact HJ0.out
   case round =>
    clear HJ0;obtain⟨u,cv6,hu,rfl,htr,hL,hF⟩:=hrel;by_cases hlt:u<16
    ·have hlpl:=Bu.lp_len body top loops 16 u;obtain⟨hs1,hs2⟩:=Bu.lp_set body top loops 16 u hlt;have hmul:u*(1+body.length)+(1+body.length)≤16*(1+body.length):=by
      rw[←Nat.succ_mul];exact Nat.mul_le_mul_right _ (by omega)
     have hval:((code.length+(1+16*(1+body.length)):Nat):Int)-((code.length+(1+u*(1+body.length)):Nat):Int)-1=(16-(u:Int))*(1+body.length)-1:=by
      have hI:(u:Int)*(1+(body.length:Int))=((u*(1+body.length):Nat):Int):=by simp
      rw[Int.sub_mul,hI];generalize u*(1+body.length)=X;omega
     have hll:(code++Bu.lp body top loops 16 u).length=code.length+(1+16*(1+body.length)):=by rw[List.length_append,hlpl]
     obtain⟨g,cc,hcv,hcc,_,hgl,hcells⟩:=Bb hL.code (by omega);subst hcv;have hr:(code++Bu.lp body top loops 16 u)[code.length+(1+u*(1+body.length))]?=some ⟨41,0,32+loops,(u:Int),0⟩:=by
      rw[List.getElem?_append_right (by omega),Nat.add_sub_cancel_left];exact hs1
     obtain⟨hN,hNF⟩:=hL.setN rfl hr ((16-(u:Int))*(1+body.length)-1);have hset:(code++Bu.lp body top loops 16 u).set (code.length+(1+u*(1+body.length))) ⟨41,0,32+loops,(u:Int),(16-(u:Int))*(1+body.length)-1⟩=code++Bu.lp body top loops 16 (u+1):=by
      rw[List.set_append_right _ _ (by omega),Nat.add_sub_cancel_left,hs2]
     simp only at hN;rw[hset] at hN;obtain⟨gt,ct',hvt,_,_,htl,htc⟩:=Bb htr (by omega);have x0:=htc _ _ (Bf (Bu.tests_at code.length body.length 16 u hlt));obtain⟨rfl,rfl⟩:At=some ⟨gt,0,none⟩∧ct=ct':=by simpa using hvt
     clear hvt;have c1:=Ab hL.blk 1 rfl;rw[hll] at c1;have d4:=hcells _ _ (Dh _ _ _ hr).2.2.2.2;have fz:wr.frozen? ⟨g,(code.length+(1+u*(1+body.length)))*5+4,none⟩=false:=by
      obtain⟨_,_,cs,hb⟩:=Ag hL.code (g:=g) rfl;exact hb.frozen _
     rw[show code.length+1+u*(1+body.length)=code.length+(1+u*(1+body.length)) by omega] at x0;have HRD:Hid (LoJ w B bb pv ps code body top loops (.slice (some ⟨gt,0,none⟩) 16 ct) (.int .i64 ((u:Int)+1)) (wr.drew.setCell ⟨g,(code.length+(1+u*(1+body.length)))*5+4,none⟩ (.int .i64 ((16-(u:Int))*(1+body.length)-1)))):=by
      obtain⟨hN',hNF'⟩:=hL.drew.setN rfl hr ((16-(u:Int))*(1+body.length)-1);simp only at hN';rw[hset] at hN';refine Aa ⟨u+1,_,by omega,by simp,Bo htr fun g' e=>?_,hN',hF.trans (((FrT.refl B wr).drew).trans hNF')⟩;obtain⟨_,_,cs,hb⟩:=Ag htr e;exact(hNF'.blk (w:=wr.drew) hb (by decide) (by decide)).trans hb.symm
     have hlb:=hL.blk.lt;clear hN hNF hset hs1 hs2 hll hr hcells htc htr hL hF hlpl;generalize hat:code.length+(1+u*(1+body.length))=at_ at *;generalize hto:code.length+(1+16*(1+body.length))=to_ at *;have hle:at_<to_∧to_≤1000000:=by omega
     obtain⟨hle1,hle2⟩:=hle;have HAT:=Aa hat;have HTO:=Aa hto;clear hat hto hmul;generalize (16-(u:Int))*(1+body.length)-1=vv at *;have HVV:=Aa hval;have hw1:IntKind.i64.wrap ((to_:Int)-(at_:Int))=(to_:Int)-at_:=IntWalk.i64_in _ (by omega);have hw2:IntKind.i64.wrap ((to_:Int)-(at_:Int)-1)=vv:=by rw[IntWalk.i64_in _ (by omega)];exact hval
     clear hval;go_wp2_with fail
     have hS:wr.drew.cell? ⟨bb,1,none⟩=some (.slice (some ⟨g,0,none⟩) to_ cc):=c1;refine Bl [15] [3,8] [] 16 (fun wq:World=>wq.cell? ⟨bb,1,none⟩=some (.slice (some ⟨g,0,none⟩) to_ cc)) ?_
     iterate 15 (first|refine Ai ?_|refine An hS ?_)
     refine Aq fun K hK=>?_;go_simp
     refine Aj hK ?_;clear hK K;refine Ah ?_;go_wp2;go_roundw
     case rel=>first|exact HRD.out|((repeat apply Exists.intro);exact⟨HRD.out,rfl⟩)
     case measure=>simp[intOf];omega
    ·obtain rfl:u=16:=by omega
     have HP:Hid (BuPost w B bb pv ps (code++Bu.loopE body top loops) (.returned (.tuple #[])) wr):=Aa ⟨rfl,⟨cv6,by rw[←HDONE.out];exact hL⟩,hF⟩;clear htr hL hF;go_wp2;go_end0;exact HP.out
end Go.Proofs.YtnhebmgibiomnaaGreat
namespace Go.Proofs.YtnhebmgibiomnaaGreat
namespace Bu
section
variable (ls : List (List Sr.Reg)) (st : List PS)
def fl (P:Nat→Bool):List (List Sr.Reg):=(List.range st.length).map fun k=>if P k then fixed ls st k else ls.getD k []
theorem Zz (l:List Sr.Reg) (n:Int):(setN l n).length=l.length:=by cases l <;> rfl
theorem fixed_len (k:Nat):(fixed ls st k).length=(ls.getD k []).length:=by
 unfold fixed;simp only;split
 ·split
  ·exact Zz _ _
  ·rfl
 ·rfl
theorem fl_none (h:ls.length=st.length):fl ls st (fun _=>false)=ls:=by
 unfold fl;refine List.ext_getElem? fun k=>?_
 rw[List.getElem?_map];by_cases hk:k<st.length
 ·rw[List.getElem?_range hk,List.getElem?_eq_getElem (by omega)];simp[List.getD_eq_getElem?_getD,List.getElem?_eq_getElem (show k<ls.length by omega)]
 ·rw[List.getElem?_eq_none (by simpa using hk),List.getElem?_eq_none (by omega)];rfl
theorem Xs (P:Nat→Bool):(fl ls st P).map List.length=(fl ls st fun _=>false).map List.length:=by
 unfold fl;rw[List.map_map,List.map_map];refine List.map_congr_left fun k _=>?_
 simp only[Function.comp];split
 ·rw[fixed_len];rfl
 ·rfl
theorem Dj {α:Type}:∀ (a:List (List α)),a.flatten.length=(a.map List.length).sum
 | []=>rfl
 | x::a=>by rw[List.flatten_cons,List.length_append,List.map_cons,List.sum_cons,Dj a]
theorem Zbg (h:ls.length=st.length) (P:Nat→Bool) (u:Nat):((fl ls st P).take u).flatten.length=begins ls u:=by
 unfold begins;rw[Dj,Dj,List.map_take,List.map_take,Xs,fl_none ls st h]
theorem fl_len (h:ls.length=st.length) (P:Nat→Bool):(fl ls st P).flatten.length=ls.flatten.length:=by
 rw[Dj,Dj,Xs,fl_none ls st h]
theorem fl_set (P:Nat→Bool) (i:Nat) (hi:i<st.length):(fl ls st P).set i (fixed ls st i)=fl ls st fun k=>P k || k==i:=by
 unfold fl;refine List.ext_getElem? fun k=>?_
 rw[List.getElem?_set,List.getElem?_map];by_cases hk:i=k
 ·subst hk;rw[if_pos rfl,if_pos (by simpa using hi),List.getElem?_map,List.getElem?_range hi];simp
 ·rw[if_neg hk,List.getElem?_map];cases hr:(List.range st.length)[k]? with
  | none=>rfl
  | some j =>
   have hj:j=k:=by
    have hl:=(List.getElem?_eq_some_iff.1 hr).1;rw[List.length_range] at hl;rw[List.getElem?_range hl] at hr
    injection hr with hr
    exact hr.symm
   subst hj;have:¬ j=i:=fun e=>hk e.symm
   simp[this]
theorem begins_le (a b:Nat) (h:a≤b):begins ls a≤begins ls b:=by
 unfold begins;have:ls.take a=(ls.take b).take a:=by rw[List.take_take,Nat.min_eq_left h]
 rw[this];have h2:=congrArg (fun l=>l.flatten.length) (List.take_append_drop a (ls.take b));simp only[List.flatten_append,List.length_append] at h2;omega
theorem begins_all (b:Nat):begins ls b≤ls.flatten.length:=by
 unfold begins;have h2:=congrArg (fun l=>l.flatten.length) (List.take_append_drop b ls);simp only[List.flatten_append,List.length_append] at h2;omega
theorem begins_succ {i:Nat} {l:List Sr.Reg} (h:ls[i]?=some l):begins ls (i+1)=begins ls i+l.length∧(ls.take (i+1)).flatten=(ls.take i).flatten++l:=by
 have e:ls.take (i+1)=ls.take i++[l]:=by rw[List.take_add_one,h];rfl
 unfold begins;rw[e,List.flatten_append];exact⟨by simp,by simp⟩
def jumps (i:Nat):List Nat:=(List.range i).filter fun k=>match st[k]? with|some s=>isJump s.op|none=>false
theorem Tj (i:Nat) {s:PS} (h:st[i]?=some s):jumps st (i+1)=jumps st i++(if isJump s.op then[i] else[]):=by
 unfold jumps;rw[List.range_succ,List.filter_append];simp only[List.filter_cons,List.filter_nil,h]
theorem jumps_mem {i k:Nat}:k∈jumps st i↔k<i∧∃ s,st[k]?=some s∧isJump s.op=true:=by
 unfold jumps;rw[List.mem_filter,List.mem_range];refine and_congr_right fun _=>?_
 cases st[k]? with
 | none=>simp
 | some s=>simp
theorem jumps_len (i:Nat):(jumps st i).length≤i:=by
 unfold jumps;have:=List.length_filter_le (fun k=>match st[k]? with|some s=>isJump s.op|none=>false) (List.range i)
 simpa using this
theorem Po (i:Nat):(jumps st i).Nodup:=List.Pairwise.filter _ List.nodup_range
def fixups (n0:Nat) (i:Nat):List (Nat×Nat):=(jumps st i).map fun k=>(n0+begins ls k,(st.getD k ⟨0,0,0,0⟩).go)
theorem fixups_succ (n0 i:Nat) {s:PS} (h:st[i]?=some s):fixups ls st n0 (i+1)=fixups ls st n0 i++(if isJump s.op then[(n0+begins ls i,s.go)] else[]):=by
 unfold fixups;rw[Tj st i h,List.map_append];split
 ·simp[List.getD_eq_getElem?_getD,h]
 ·simp
theorem fl_done (h:ls.length=st.length):(fl ls st fun k=>(jumps st st.length).contains k).flatten=(List.range st.length).flatMap (fixed ls st):=by
 rw[List.flatMap_def]
 congr 1
 unfold fl;refine List.map_congr_left fun k hk=>?_
 have hk:=List.mem_range.1 hk;split
 ·rfl
 ·rename_i hc;unfold fixed;rw[List.getElem?_eq_getElem hk];simp only;have hn:¬ isJump (st[k]).op=true:=fun hj=>hc (by
   rw[List.contains_iff_mem];exact(jumps_mem st).2 ⟨hk,_,List.getElem?_eq_getElem hk,hj⟩)
  rw[if_neg hn]
end
theorem piece_jump {es:List Emit} {p:Plan} {high loops:Int} {i:Nat} {s:PS} (h:p.steps[i]?=some s) (hj:isJump s.op=true) :
  ∃ r,(pieces es p high loops)[i]?=some [r]∧fixed (pieces es p high loops) p.steps i=[{ r with n:=(begins (pieces es p high loops) s.go:Int)-begins (pieces es p high loops) i-1 }]:=by
 have hp:(pieces es p high loops)[i]?=some (stepE es (s.op,s.a) (high+s.high) loops):=by
  unfold pieces;rw[List.getElem?_map,h];rfl
 have h1:∃ r,stepE es (s.op,s.a) (high+s.high) loops=[r]:=by
  unfold isJump at hj;simp only[decide_eq_true_eq] at hj;rcases hj with hj|hj
  ·rw[hj];exact⟨_,rfl⟩
  ·rw[hj];exact⟨_,rfl⟩
 obtain⟨r,hr⟩:=h1;rw[hr] at hp;refine⟨r,hp,?_⟩;unfold fixed;simp only[h,hj,if_true,List.getD_eq_getElem?_getD,hp,Option.getD_some];rfl
theorem pieces_len (es:List Emit) (p:Plan) (high loops:Int):(pieces es p high loops).length=p.steps.length:=by unfold pieces;simp
theorem emitE_len (es:List Emit) (p:Plan) (high loops:Int):(emitE es p high loops).length=(pieces es p high loops).flatten.length:=by
 unfold emitE;simp only;rw[←fl_done _ _ (pieces_len es p high loops)];exact fl_len _ _ (pieces_len es p high loops) _
end Bu
end Go.Proofs.YtnhebmgibiomnaaGreat

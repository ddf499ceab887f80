/- Parts of the proof, joined: BuH. -/
import Derived.Test.YtnhebmgibiomnaaGreatPb20
set_option linter.unusedVariables false
set_option linter.unusedSimpArgs false
set_option maxRecDepth 100000
set_option maxHeartbeats 8000000
namespace Go.Proofs.YtnhebmgibiomnaaGreat
open Go.RowKit Mc
def Ry (k:Nat) (p:Bu.Plan):Prop:=∀ s∈p.steps,((s.op=37∨s.op=38)→0≤s.a∧s.a<k)∧-64≤s.high∧s.high≤64∧s.go≤p.steps.length
theorem BuL.far {w:World} {B bb:Nat} {pv cv:Value} {ps:List Bu.Plan} {code:List Sr.Reg} (h:BuL w B bb pv cv ps code) {g:Nat} {t:TypeId} {cs:Array Value} (hb:Blk w g t cs) (ht:t ∉ [86,50,89,145]) (i:Nat) (u:Value):BuL (w.setCell ⟨g,i,none⟩ u) B bb pv cv ps code:=by
 simp only[List.mem_cons,not_or,List.not_mem_nil,not_false_eq_true,and_true] at ht;obtain⟨t1,t2,t3,t4⟩:=ht;refine⟨h.blk.far (p:=⟨g,i,none⟩) (h.blk.ne_ hb (fun e=>t1 e.symm)) u,?_,Be h.code hb t2 i u,h.base,h.own⟩;obtain⟨A,c,e,hr⟩:=h.ps;refine⟨A,c,e,(hr.keep fun g' t' xs' fz _ hm hh=>Gs hb i u g' t' xs' fz (fun e=>?_) hh).more (by simp[World.setCell])⟩;subst e;rcases hm with hm|hm
 ·omega
 ·simp only[Ih,psR,Repr.map,Repr.pair,Repr.row,Repr.int,List.append_nil,List.mem_cons,List.not_mem_nil,or_false] at hm;rcases hm with hm|hm
  ·exact t3 hm
  ·exact t4 hm
theorem FrT.setNew {B:Nat} {w W:World} (h:FrT B w W) {g:Nat} (hg:w.heap.size≤g) (hB:B≤w.heap.size) (i:Nat) (u:Value):FrT B w (W.setCell ⟨g,i,none⟩ u) :=
 ⟨h.below.setCell (p:=⟨g,i,none⟩) (by show B≤g;omega) u,fun k t cs fz e h1 h2=>by
  rw[Below.heap_setCell _ _ _ _ (by have:=(Array.getElem?_eq_some_iff.1 e).1;show k≠g;omega)];exact h.keep k t cs fz e h1 h2⟩
namespace Bu
def bgs (ls:List (List Sr.Reg)) (n0 n i:Nat):List Int:=(List.range (n+1)).map fun k=>if k<i then((n0+begins ls k:Nat):Int) else 0
theorem bgs_len (ls:List (List Sr.Reg)) (n0 n i:Nat):(bgs ls n0 n i).length=n+1:=by unfold bgs;simp
theorem bgs_zero (ls:List (List Sr.Reg)) (n0 n:Nat):bgs ls n0 n 0=List.replicate (n+1) 0:=by
 unfold bgs;refine List.ext_getElem (by simp) fun k h1 h2=>?_
 simp
theorem bgs_set (ls:List (List Sr.Reg)) (n0 n i:Nat) (h:i<n+1):(bgs ls n0 n i).set i ((n0+begins ls i:Nat):Int)=bgs ls n0 n (i+1):=by
 unfold bgs;refine List.ext_getElem (by simp) fun k h1 h2=>?_
 rw[List.getElem_set];simp only[List.getElem_map,List.getElem_range];by_cases hk:i=k
 ·subst hk;simp
 ·rw[if_neg hk];have:(k<i)=(k<i+1):=propext (by omega);simp only[this]
theorem bgs_at (ls:List (List Sr.Reg)) (n0 n i k:Nat) (h:k<i) (hi:i≤n+1):(bgs ls n0 n i)[k]?=some ((n0+begins ls k:Nat):Int):=by
 unfold bgs;rw[List.getElem?_map,List.getElem?_range (by omega)];simp[h]
theorem fix_step (ls:List (List Sr.Reg)) (st:List PS) (h:ls.length=st.length) (code:List Sr.Reg) (m q:Nat) (hq:(jumps st st.length)[m]?=some q) (r r':Sr.Reg) (hr:ls[q]?=some [r]) (hf:fixed ls st q=[r']) :
  (code++(fl ls st fun k=>((jumps st st.length).take m).contains k).flatten)[code.length+begins ls q]?=some r ∧
  (code++(fl ls st fun k=>((jumps st st.length).take m).contains k).flatten).set (code.length+begins ls q) r'=code++(fl ls st fun k=>((jumps st st.length).take (m+1)).contains k).flatten:=by
 have hql:q<st.length:=((jumps_mem st).1 (List.mem_of_getElem? hq)).1;have hnc:((jumps st st.length).take m).contains q=false:=by
  rw[Bool.eq_false_iff];intro hc;rw[List.contains_iff_mem] at hc;obtain⟨i,hi,e⟩:=List.mem_iff_getElem.1 hc;rw[List.getElem_take] at e;rw[List.length_take] at hi;obtain⟨hm,e2⟩:=List.getElem?_eq_some_iff.1 hq;have:=(List.getElem_inj (Po st st.length)).1 (e.trans e2.symm);omega
 have hat:(fl ls st fun k=>((jumps st st.length).take m).contains k)[q]?=some (r::[]):=by
  unfold fl;rw[List.getElem?_map,List.getElem?_range hql];simp only[Option.map_some,hnc,Bool.false_eq_true,if_false,List.getD_eq_getElem?_getD,hr,Option.getD_some]
 obtain⟨h1,h2⟩:=Pu _ _ _ _ hat;rw[Zbg ls st h] at h1 h2;refine⟨?_,?_⟩
 ·rw[List.getElem?_append_right (by omega)]
  simpa using h1
 ·rw[List.set_append_right _ _ (by omega),Nat.add_sub_cancel_left,h2 r',←hf,fl_set ls st _ q hql]
  congr 2
  refine congrArg (fl ls st) (funext fun k=>?_);rw[List.take_add_one,hq];simp[List.contains_eq_mem,Bool.beq_eq_decide_eq]
end Bu
def EmI (w:World) (B bb:Nat) (pv:Value) (ps:List Bu.Plan) (code:List Sr.Reg) (ls:List (List Sr.Reg)) (st:List Bu.PS) (A:Option Addr) (c:Nat) (z:Int) (bg:Nat) (v i:Value) (wr:World):Prop :=
 ∃ (j:Nat) (cv:Value),j≤st.length∧i=.int .i64 (j:Int)∧wr.ownsRow w.heap.size 3 1 (.slice (some ⟨bg,0,none⟩) (st.length+1) (st.length+1)) (st.length+1) (ints (Bu.bgs ls code.length st.length j)) ∧
  wr.ownsRow w.heap.size 150 2 v (Bu.fixups ls st code.length j).length (cts (Bu.fixups ls st code.length j))∧BuL wr B bb pv cv ps (code++(ls.take j).flatten)∧FrT B w wr∧Blk wr w.heap.size 89 #[.slice A st.length c,.int .i64 z]
def EmJ (w:World) (B bb:Nat) (pv:Value) (ps:List Bu.Plan) (code:List Sr.Reg) (ls:List (List Sr.Reg)) (st:List Bu.PS) (bg:Nat) (v i:Value) (wr:World):Prop :=
 ∃ (m:Nat) (cv:Value),m≤(Bu.fixups ls st code.length st.length).length∧i=.int .i64 (m:Int)∧wr.ownsRow w.heap.size 3 1 (.slice (some ⟨bg,0,none⟩) (st.length+1) (st.length+1)) (st.length+1) (ints (Bu.bgs ls code.length st.length (st.length+1))) ∧
  wr.ownsRow w.heap.size 150 2 v (Bu.fixups ls st code.length st.length).length (cts (Bu.fixups ls st code.length st.length))∧BuL wr B bb pv cv ps (code++(Bu.fl ls st fun k=>((Bu.jumps st st.length).take m).contains k).flatten)∧FrT B w wr
theorem Zbb:(Tryz.prog.info? 150).map (fun i=>(i.zero,i.size,i.bytes))=some (some (.agg #[.int .i64 0,.int .i64 0]),2,16):=by kernel_rfl
theorem Od (es:List Bu.Emit) (ps:List Bu.Plan) (k:Nat) (hk:k≤ps.length) (hE:∀ j,j<k→Rz es ps j) (p:Bu.Plan) (hp:Ry k p) (w:World) (B bb:Nat) (pv cv:Value) (code:List Sr.Reg) (A:Option Addr) (c:Nat) (high loops:Int) (h:BuL w B bb pv cv ps code) (hB:B≤w.heap.size) (hst:RowAt (psR 0) 145 w w.heap.size A p.steps) (hn:p.steps.length<1000000) (heb:EmB k high loops) (hlen:code.length+(Bu.emitE es p high loops).length≤1000000) :
  Calls Tryz.prog 35 #[.pointer (some ⟨bb,0,none⟩),.agg #[.slice A p.steps.length c,.int .i64 p.size],.int .i64 high,.int .i64 loops] w (BuPost w B bb pv ps (code++Bu.emitE es p high loops)):=by
 have hpl:=Bu.pieces_len es p high loops;rw[Bu.emitE_len] at hlen;have hpc:∀ (i:Nat) s,p.steps[i]?=some s→(Bu.pieces es p high loops)[i]?=some (Bu.stepE es (s.op,s.a) (high+s.high) loops):=fun i s hs=>by
  unfold Bu.pieces;rw[List.getElem?_map,hs];rfl
 have hpj:=fun (i:Nat) (s:Bu.PS) (h1:p.steps[i]?=some s) (h2:Bu.isJump s.op=true)=>Bu.piece_jump (es:=es) (high:=high) (loops:=loops) h1 h2
 have hdone:(Bu.fl (Bu.pieces es p high loops) p.steps fun k=>(Bu.jumps p.steps p.steps.length).contains k).flatten=Bu.emitE es p high loops:=Bu.fl_done _ _ hpl;generalize hls:Bu.pieces es p high loops=ls at *;generalize Bu.emitE es p high loops=T at *;have HDONE:=Aa hdone;have HPC:=Aa hpc;have HPJ:=Aa hpj;have HPL:=Aa hpl;have HST:=Aa hst;have HSTEP:=Aa (fun (W:World) (cv':Value) (code':List Sr.Reg) hW hBW (op x next:Int) (hc:(op=37∨op=38)→0≤x∧x<k) hs hl=>Yk W B bb pv cv' ps code' hW hBW es op x next loops k hk hE (fun j hj=>Yl es ps j (hE j hj)) hc hs hl);have HFINE:=Aa hp;have HA:=Aa (h.alloc (.cells #[.slice A p.steps.length c,.int .i64 p.size] 89));have FA:=Aa ((FrT.refl B w).alloc hB (.cells #[.slice A p.steps.length c,.int .i64 p.size] 89));have HPB:=Aa (Blk.new w 89 #[.slice A p.steps.length c,.int .i64 p.size]);obtain⟨i0,hi0,hi1,hi2,hi3⟩:=Dc Zbb;obtain⟨heb1,heb2,heb3,heb4⟩:=heb;have hz:=h.blk.lt;have hmk:∀ W:World,(Instr.makeSlice 22 (.int .i64 ((p.steps.length:Int)+1)) (.int .i64 ((p.steps.length:Int)+1))).run Tryz.prog W=.ok (.slice (some ⟨W.heap.size,0,none⟩) (p.steps.length+1) (p.steps.length+1)) (W.alloc (.cells (ints (List.replicate (p.steps.length+1) 0)).toArray 3)):=fun W=>by
  have:=Ha (p.steps.length+1) (by omega) W
  rwa [show ((p.steps.length+1:Nat):Int)=(p.steps.length:Int)+1 by omega] at this
 have HBG:Hid (((w.alloc (.cells #[.slice A p.steps.length c,.int .i64 p.size] 89)).alloc (.cells (ints (List.replicate (p.steps.length+1) 0)).toArray 3)).ownsRow w.heap.size 3 1 (.slice (some ⟨w.heap.size+1,0,none⟩) (p.steps.length+1) (p.steps.length+1)) (p.steps.length+1) (ints (Bu.bgs ls code.length p.steps.length 0))):=Aa (by
  rw[Bu.bgs_zero];have:=Cx (W:=w.alloc (.cells #[.slice A p.steps.length c,.int .i64 p.size] 89)) (B:=w.heap.size) (t:=3) (size:=1) (n:=p.steps.length+1) (xs:=ints (List.replicate (p.steps.length+1) 0)) (by rw[Bw,List.length_replicate,Nat.mul_one]) (by simp) (by unfold maxLen;omega)
  simpa using this)
 have hw1:IntKind.i64.wrap ((p.steps.length:Int)+1)=(p.steps.length:Int)+1:=IntWalk.i64_in _ (by omega);clear h hst hE hp hpl hpc hpj hdone hls;go_enter Tryz.func35,Tryz.ntmps35;go_wp2_with fail
 have HI0:Hid (EmI w B bb pv ps code ls p.steps A c p.size (w.heap.size+1) (.slice none 0 0) (.int .i64 0) ((w.alloc (.cells #[.slice A p.steps.length c,.int .i64 p.size] 89)).alloc (.cells (ints (List.replicate (p.steps.length+1) 0)).toArray 3))):=Aa ⟨0,cv,by omega,rfl,HBG.out,by exact Di _ _ _ _,by simpa using HA.out.alloc _,FA.out.alloc (by simp;omega) _,HPB.out.alloc _⟩;clear HA FA HPB HBG hmk hw1;go_loopw [9,22] (fun v i wr=>EmI w B bb pv ps code ls p.steps A c p.size (w.heap.size+1) v i wr) (fun _ i _=>p.steps.length-(intOf i).toNat)
 case atStart=>exact HI0.out
 case round =>
  clear HI0;obtain⟨j,cv2,hj,rfl,hbg,hfx,hL,hF,hPB⟩:=hrel;by_cases hlt:j<p.steps.length
  ·obtain⟨⟨op,x,hi,go⟩,hs⟩:∃ s,p.steps[j]?=some s:=⟨_,List.getElem?_eq_getElem hlt⟩;obtain⟨hf1,hf2,hf3,hf4⟩:=HFINE.out _ (List.mem_of_getElem? hs);simp only at hf1 hf2 hf3 hf4;obtain⟨sg,soff,cs,hAe,hsg,hrel,hcells⟩:=(HST.out.frT hF rfl (by decide) (by decide)).get hs;have hce:=ps_rel hrel;subst hce;have d0:=hcells 0 _ rfl;have d1:=hcells 1 _ rfl;have d2:=hcells 2 _ rfl;have d3:=hcells 3 _ rfl;simp only[psR,Repr.map,Repr.pair,Repr.int,Nat.add_zero,Nat.reduceAdd] at d0 d1 d2 d3;subst hAe;have hpi:=HPC.out _ _ hs;simp only at hpi;obtain⟨hb1,hb2⟩:=Bu.begins_succ ls hpi;have hball:=Bu.begins_all ls (j+1);have hll:(code++(ls.take j).flatten).length=code.length+Bu.begins ls j:=by rw[List.length_append];rfl
   obtain⟨Ac,cc,hcv,hcc,_⟩:=Ae hL.code;subst hcv;have c1:=Ab hL.blk 1 rfl;rw[hll] at c1;obtain⟨_,_,gcs,hgb⟩:=Ag hbg (g:=w.heap.size+1) rfl;have fzb:=hgb.frozen j;have hbgc:=(Bb hbg (by omega));obtain⟨g',c',hg',_,_,_,hbgc⟩:=hbgc;have hbj:=hbgc j _ (Bf (List.getElem?_eq_getElem (by rw[Bu.bgs_len];omega)));obtain⟨rfl,rfl⟩:w.heap.size+1=g'∧p.steps.length+1=c':=by simpa using hg'
   have HBG2:=Aa (Cg hbg (g:=w.heap.size+1) rfl (j:=j) (by rw[Bw,Bu.bgs_len];omega) (.int .i64 ((code.length+Bu.begins ls j:Nat):Int)));have hset:(ints (Bu.bgs ls code.length p.steps.length j)).set j (.int .i64 ((code.length+Bu.begins ls j:Nat):Int))=ints (Bu.bgs ls code.length p.steps.length (j+1)):=by
    rw[←Dr,Bu.bgs_set _ _ _ _ (by omega)]
   rw[hset] at HBG2;have HL2:=Aa (hL.far hgb (by decide) j (.int .i64 ((code.length+Bu.begins ls j:Nat):Int)));have HF2:=Aa (hF.setNew (g:=w.heap.size+1) (by omega) hB j (.int .i64 ((code.length+Bu.begins ls j:Nat):Int)));have HFX2:=Aa (Be hfx hgb (by decide) j (.int .i64 ((code.length+Bu.begins ls j:Nat):Int)));have HPB2:=Aa (hPB.far (p:=⟨w.heap.size+1,j,none⟩) (hPB.ne_ hgb (by decide)) (.int .i64 ((code.length+Bu.begins ls j:Nat):Int)));have hzw:=hF.below.size;have hlb:=hL.blk.lt;have hgl:=hgb.lt;have hsgl:sg<wr.heap.size:=hsg;have HLL:=Aa hll;have HB2:=Aa hb2;have HBE:=Aa (show (Bu.begins ls (j+1))=Bu.begins ls j+_ from hb1);have HS:=Aa hs;have hNle:code.length+Bu.begins ls j+(Bu.stepE es (op,x) (high+hi) loops).length≤1000000:=by omega
   generalize hN:code.length+Bu.begins ls j=N at *;have HN:=Aa hN;have hji:(j:Int)<p.steps.length:=by omega
   clear hbg hfx hL hF hPB hgb hset hpi hb1 hb2 hball hll hs hcells hrel hN hg';have HL3:=Aa (HL2.out.alloc (.cells #[.int .i64 op,.int .i64 x,.int .i64 hi,.int .i64 (go:Int)] 145));have HF3:=Aa (HF2.out.alloc (by simp[World.setCell];omega) (.cells #[.int .i64 op,.int .i64 x,.int .i64 hi,.int .i64 (go:Int)] 145));have HBG3:=Aa (HBG2.out.alloc (.cells #[.int .i64 op,.int .i64 x,.int .i64 hi,.int .i64 (go:Int)] 145));have HFX3:=Aa (HFX2.out.alloc (.cells #[.int .i64 op,.int .i64 x,.int .i64 hi,.int .i64 (go:Int)] 145));have HPB3:=Aa (HPB2.out.alloc (.cells #[.int .i64 op,.int .i64 x,.int .i64 hi,.int .i64 (go:Int)] 145));have hz3:w.heap.size≤((wr.setCell ⟨w.heap.size+1,j,none⟩ (.int .i64 (N:Int))).alloc (.cells #[.int .i64 op,.int .i64 x,.int .i64 hi,.int .i64 (go:Int)] 145)).heap.size∧wr.heap.size<((wr.setCell ⟨w.heap.size+1,j,none⟩ (.int .i64 (N:Int))).alloc (.cells #[.int .i64 op,.int .i64 x,.int .i64 hi,.int .i64 (go:Int)] 145)).heap.size∧bb<((wr.setCell ⟨w.heap.size+1,j,none⟩ (.int .i64 (N:Int))).alloc (.cells #[.int .i64 op,.int .i64 x,.int .i64 hi,.int .i64 (go:Int)] 145)).heap.size:=⟨by simp[World.setCell];omega,by simp[World.setCell],by simp[World.setCell];omega⟩;have s0:((wr.setCell ⟨w.heap.size+1,j,none⟩ (.int .i64 (N:Int))).alloc (.cells #[.int .i64 op,.int .i64 x,.int .i64 hi,.int .i64 (go:Int)] 145)).cell? ⟨wr.heap.size,0,none⟩=some (.int .i64 op):=(Blk.new_at _ _ _ (by simp[World.setCell])).cell 0
   have s1:((wr.setCell ⟨w.heap.size+1,j,none⟩ (.int .i64 (N:Int))).alloc (.cells #[.int .i64 op,.int .i64 x,.int .i64 hi,.int .i64 (go:Int)] 145)).cell? ⟨wr.heap.size,1,none⟩=some (.int .i64 x):=(Blk.new_at _ _ _ (by simp[World.setCell])).cell 1;have s2:((wr.setCell ⟨w.heap.size+1,j,none⟩ (.int .i64 (N:Int))).alloc (.cells #[.int .i64 op,.int .i64 x,.int .i64 hi,.int .i64 (go:Int)] 145)).cell? ⟨wr.heap.size,2,none⟩=some (.int .i64 hi):=(Blk.new_at _ _ _ (by simp[World.setCell])).cell 2;have s3:((wr.setCell ⟨w.heap.size+1,j,none⟩ (.int .i64 (N:Int))).alloc (.cells #[.int .i64 op,.int .i64 x,.int .i64 hi,.int .i64 (go:Int)] 145)).cell? ⟨wr.heap.size,3,none⟩=some (.int .i64 (go:Int)):=(Blk.new_at _ _ _ (by simp[World.setCell])).cell 3;have b1:=Ab HL3.out.blk 1 rfl;rw[HLL.out] at b1;clear HL2 HF2 HBG2 HFX2 HPB2;by_cases hjmp:op=35∨op=36
   ·have hfix:=Bu.fixups_succ ls p.steps code.length j HS.out;rw[show Bu.isJump op=true by unfold Bu.isJump;simpa using hjmp,if_pos rfl,HN.out] at hfix;have HFIX:=Aa hfix;obtain⟨Af,cf,hvf,_,_⟩:=Ae HFX3.out;subst hvf;have HFL:=Aa (show (Bu.fixups ls p.steps code.length j).length≤1000000 by unfold Bu.fixups;rw[List.length_map];have:=Bu.jumps_len p.steps j;omega);generalize Bu.fixups ls p.steps code.length j=fj at *;have hfl:=HFL.out;have HFX4:=Aa (HFX3.out.drew.alloc (.cells #[.int .i64 (N:Int),.int .i64 (go:Int)] 150));have HL4:=Aa (HL3.out.drew.alloc (.cells #[.int .i64 (N:Int),.int .i64 (go:Int)] 150));have HF4:=Aa (HF3.out.drew.alloc (by show B≤((wr.setCell ⟨w.heap.size+1,j,none⟩ (.int .i64 (N:Int))).alloc (.cells #[.int .i64 op,.int .i64 x,.int .i64 hi,.int .i64 (go:Int)] 145)).heap.size;omega) (.cells #[.int .i64 (N:Int),.int .i64 (go:Int)] 150));have HBG4:=Aa (HBG3.out.drew.alloc (.cells #[.int .i64 (N:Int),.int .i64 (go:Int)] 150));have HPB4:=Aa (HPB3.out.drew.alloc (.cells #[.int .i64 (N:Int),.int .i64 (go:Int)] 150));have HSB4:=Aa (((Blk.new_at _ _ _ (by simp[World.setCell]):Blk ((wr.setCell ⟨w.heap.size+1,j,none⟩ (.int .i64 (N:Int))).alloc (.cells #[.int .i64 op,.int .i64 x,.int .i64 hi,.int .i64 (go:Int)] 145)) wr.heap.size 145 #[.int .i64 op,.int .i64 x,.int .i64 hi,.int .i64 (go:Int)]).drew).alloc (.cells #[.int .i64 (N:Int),.int .i64 (go:Int)] 150))
    have HRD:Hid (Reads (((wr.setCell ⟨w.heap.size+1,j,none⟩ (.int .i64 (N:Int))).alloc (.cells #[.int .i64 op,.int .i64 x,.int .i64 hi,.int .i64 (go:Int)] 145)).drew.alloc (.cells #[.int .i64 (N:Int),.int .i64 (go:Int)] 150)) (((wr.setCell ⟨w.heap.size+1,j,none⟩ (.int .i64 (N:Int))).alloc (.cells #[.int .i64 op,.int .i64 x,.int .i64 hi,.int .i64 (go:Int)] 145)).drew.alloc (.cells #[.int .i64 (N:Int),.int .i64 (go:Int)] 150)).heap.size 2 (some ⟨wr.heap.size+1,0,none⟩) 1 [.int .i64 (N:Int),.int .i64 (go:Int)]):=Aa (Reads.blk (cs:=[.int .i64 (N:Int),.int .i64 (go:Int)]) (Blk.new_at _ 150 _ (by show wr.heap.size+1=((wr.setCell ⟨w.heap.size+1,j,none⟩ (.int .i64 (N:Int))).alloc (.cells #[.int .i64 op,.int .i64 x,.int .i64 hi,.int .i64 (go:Int)] 145)).heap.size;simp[World.setCell])) 2 1 rfl);have hz4:w.heap.size≤(((wr.setCell ⟨w.heap.size+1,j,none⟩ (.int .i64 (N:Int))).alloc (.cells #[.int .i64 op,.int .i64 x,.int .i64 hi,.int .i64 (go:Int)] 145)).drew.alloc (.cells #[.int .i64 (N:Int),.int .i64 (go:Int)] 150)).heap.size:=Nat.le_trans hz3.1 (by simp[World.drew]);clear hfix HFL HFX3 HL3 HF3 HBG3 HPB3;have hcase:(op==35)=true∨((op==35)=false∧(op==36)=true):=by
     rcases hjmp with hop|hop
     ·exact .inl (by simp[hop])
     ·exact .inr (by simp[hop])
    clear hjmp;rcases hcase with b35|⟨b35,b36⟩
    all_goals
     go_wp2_with fail
     have hS:((wr.setCell ⟨w.heap.size+1,j,none⟩ (.int .i64 (N:Int))).alloc (.cells #[.int .i64 op,.int .i64 x,.int .i64 hi,.int .i64 (go:Int)] 145)).drew.cell? ⟨bb,1,none⟩=some (.slice Ac N cc)∧((wr.setCell ⟨w.heap.size+1,j,none⟩ (.int .i64 (N:Int))).alloc (.cells #[.int .i64 op,.int .i64 x,.int .i64 hi,.int .i64 (go:Int)] 145)).drew.cell? ⟨wr.heap.size,3,none⟩=some (.int .i64 (go:Int)):=⟨b1,s3⟩;refine Bl [9,10] [4,7] [] 12 (fun wq:World=>wq.cell? ⟨bb,1,none⟩=some (.slice Ac N cc)∧wq.cell? ⟨wr.heap.size,3,none⟩=some (.int .i64 (go:Int))) ?_
     iterate 9 (first|refine Ai ?_|refine An hS ?_)
     refine Aq fun K hK=>?_;go_simp
     refine Aj hK ?_;clear hK K;refine Aq fun K hK=>?_
     refine Ep _ rfl (.tmp 45) (.tmp 54) _ rfl 150 i0 _ 2 16 Tryz.underlying148 hi0 hi1 hi2 hi3 rfl (by decide) w.heap.size _ _ _ rfl HFX4.out hz4 _ _ 1 1 [.int .i64 (N:Int),.int .i64 (go:Int)] rfl HRD.out (by simp[Value.oneCell']) (by unfold maxLen;omega) (by omega) ?_;intro v' W3 hrow hg hnew;have HL3:=Aa (HL4.out.grown HFX4.out hg (by decide));have HF3:=Aa (HF4.out.grown hg hB fun r e=>(Ag HFX4.out e).1);have HBG3:=Aa (Fk HBG4.out hg (Fc HBG4.out HFX4.out (by decide)));have HFX3:Hid (W3.ownsRow w.heap.size 150 2 v' (Bu.fixups ls p.steps code.length (j+1)).length (cts (Bu.fixups ls p.steps code.length (j+1)))):=Aa (by
      rw[HFIX.out]
      simpa [cts] using hrow)
     have HPB3:=Aa (HPB4.out.grown hg fun e=>by
      obtain⟨_,_,_,hb⟩:=Ag HFX4.out e.symm;exact HPB4.out.ne_ hb (by decide) rfl)
     have hsb:=HSB4.out.grown hg fun e=>by
      obtain⟨_,_,_,hb⟩:=Ag HFX4.out e.symm;exact HSB4.out.ne_ hb (by decide) rfl
     have hz6:=HF3.out.below.size;clear hrow hg hnew HL4 HF4 HBG4 HFX4 HPB4 HSB4 HRD s0 s1 s2 s3 b1 hz3 hz4;have s0:=Ab hsb 0 rfl;have s1:=Ab hsb 1 rfl;have s2:=Ab hsb 2 rfl;clear hsb;refine Aj hK ?_;clear hK K
     iterate 1 (first|refine Ai ?_|refine An hS ?_)
     refine Ah ?_;clear hS;go_wp2_with fail
     refine(HSTEP.out W3 _ _ HL3.out (by omega) op x (high+hi) hf1 ⟨by omega,by omega,by omega,by omega⟩ (by rw[HLL.out];omega)).mono ?_;rintro e w6 ⟨rfl,⟨cv6,hl6⟩,hf6⟩;have HR:Hid (EmI w B bb pv ps code ls p.steps (some ⟨sg,soff,none⟩) c p.size (w.heap.size+1) _ (.int .i64 ((j:Int)+1)) w6):=Aa ⟨j+1,cv6,by omega,by simp,Bo HBG3.out fun g e=>by
      obtain⟨_,_,cs,hb⟩:=Ag HBG3.out e;exact(hf6.blk hb (by decide) (by decide)).trans hb.symm,Bo HFX3.out fun g e=>by
      obtain⟨_,_,cs,hb⟩:=Ag HFX3.out e;exact(hf6.blk hb (by decide) (by decide)).trans hb.symm,by
      rw[HB2.out,←List.append_assoc];exact hl6,HF3.out.trans hf6,hf6.blk HPB3.out (by decide) (by decide)⟩
     clear hl6 hf6 HL3 HF3 HBG3 HFX3 HPB3;go_wp2;go_roundw
     case rel=>exact HR.out
     case measure=>simp[intOf];omega
   ·have n35:¬ op=35:=fun e=>hjmp (.inl e)
    have n36:¬ op=36:=fun e=>hjmp (.inr e)
    have hfix:=Bu.fixups_succ ls p.steps code.length j HS.out;rw[show Bu.isJump op=false by unfold Bu.isJump;simpa using hjmp] at hfix;simp only[Bool.false_eq_true,if_false,List.append_nil] at hfix;rw[←hfix] at HFX3;have b35:(op==35)=false:=by simpa using n35
    have b36:(op==36)=false:=by simpa using n36
    clear hfix hjmp s0 s1 s2 s3 b1;go_wp2_with fail
    generalize ((wr.setCell ⟨w.heap.size+1,j,none⟩ (.int .i64 (N:Int))).alloc (.cells #[.int .i64 op,.int .i64 x,.int .i64 hi,.int .i64 (go:Int)] 145))=W3 at *;refine(HSTEP.out W3 _ _ HL3.out (by omega) op x (high+hi) hf1 ⟨by omega,by omega,by omega,by omega⟩ (by rw[HLL.out];omega)).mono ?_;rintro e w6 ⟨rfl,⟨cv6,hl6⟩,hf6⟩;have HR:Hid (EmI w B bb pv ps code ls p.steps (some ⟨sg,soff,none⟩) c p.size (w.heap.size+1) _ (.int .i64 ((j:Int)+1)) w6):=Aa ⟨j+1,cv6,by omega,by simp,Bo HBG3.out fun g e=>by
     obtain⟨_,_,cs,hb⟩:=Ag HBG3.out e;exact(hf6.blk hb (by decide) (by decide)).trans hb.symm,Bo HFX3.out fun g e=>by
     obtain⟨_,_,cs,hb⟩:=Ag HFX3.out e;exact(hf6.blk hb (by decide) (by decide)).trans hb.symm,by
     rw[HB2.out,←List.append_assoc];exact hl6,HF3.out.trans hf6,hf6.blk HPB3.out (by decide) (by decide)⟩
    clear hl6 hf6 HL3 HF3 HBG3 HFX3 HPB3;go_wp2;go_roundw
    case rel=>exact HR.out
    case measure=>simp[intOf];omega
  ·obtain rfl:j=p.steps.length:=by omega
   clear hj;have hls:(ls.take p.steps.length).flatten=(Bu.fl ls p.steps fun k=>((Bu.jumps p.steps p.steps.length).take 0).contains k).flatten:=by
    rw[List.take_of_length_le (by have:=HPL.out;omega)];simp only[List.take_zero,List.contains_nil];rw[Bu.fl_none _ _ HPL.out]
   have hll:(code++(ls.take p.steps.length).flatten).length=code.length+Bu.begins ls p.steps.length:=by rw[List.length_append];rfl
   obtain⟨Ac,cc,hcv,hcc,_⟩:=Ae hL.code;subst hcv;have c1:=Ab hL.blk 1 rfl;have p0:=Ab hPB 0 rfl;rw[hll] at c1;obtain⟨_,_,gcs,hgb⟩:=Ag hbg (g:=w.heap.size+1) rfl;have fzb:=hgb.frozen p.steps.length;obtain⟨g',c',hg',_,_,_,hbgc⟩:=Bb hbg (by omega);have hbj:=hbgc p.steps.length _ (Bf (List.getElem?_eq_getElem (by rw[Bu.bgs_len];omega)));obtain⟨rfl,rfl⟩:w.heap.size+1=g'∧p.steps.length+1=c':=by simpa using hg'
   have HBG2:=Aa (Cg hbg (g:=w.heap.size+1) rfl (j:=p.steps.length) (by rw[Bw,Bu.bgs_len];omega) (.int .i64 ((code.length+Bu.begins ls p.steps.length:Nat):Int)));rw[←Dr,Bu.bgs_set _ _ _ _ (by omega)] at HBG2;have HL2:=Aa (hL.far hgb (by decide) p.steps.length (.int .i64 ((code.length+Bu.begins ls p.steps.length:Nat):Int)));rw[hls] at HL2;have HF2:=Aa (hF.setNew (g:=w.heap.size+1) (by omega) hB p.steps.length (.int .i64 ((code.length+Bu.begins ls p.steps.length:Nat):Int)));have HFX2:=Aa (Be hfx hgb (by decide) p.steps.length (.int .i64 ((code.length+Bu.begins ls p.steps.length:Nat):Int)));have hball:=Bu.begins_all ls p.steps.length;have hzw:=hF.below.size;have hlb:=hL.blk.lt;have hgl:=hgb.lt;have hN2:code.length+Bu.begins ls p.steps.length≤1000000:=by omega
   have HFL:=Aa (show (Bu.fixups ls p.steps code.length p.steps.length).length≤1000000 by unfold Bu.fixups;rw[List.length_map];have:=Bu.jumps_len p.steps p.steps.length;omega);obtain⟨Af,cf,hvf,_,_⟩:=Ae HFX2.out;subst hvf;have HI1:Hid (EmJ w B bb pv ps code ls p.steps (w.heap.size+1) (.slice Af (Bu.fixups ls p.steps code.length p.steps.length).length cf) (.int .i64 0) (wr.setCell ⟨w.heap.size+1,p.steps.length,none⟩ (.int .i64 ((code.length+Bu.begins ls p.steps.length:Nat):Int))).drew):=Aa ⟨0,_,by omega,rfl,HBG2.out.drew,HFX2.out.drew,HL2.out.drew,HF2.out.drew⟩;clear hls hll hbg hfx hL hF hPB hgb hball hbgc hg' HBG2 HL2 HF2 HFX2;generalize code.length+Bu.begins ls p.steps.length=N at *;generalize hFL:(Bu.fixups ls p.steps code.length p.steps.length).length=F at *;have hfl:=HFL.out;have hlt1:(p.steps.length:Int)<(p.steps.length:Int)+1:=by omega
   go_wp2_with fail
   have hS:wr.drew.cell? ⟨w.heap.size,0,none⟩=some (.slice A p.steps.length c)∧wr.drew.cell? ⟨bb,1,none⟩=some (.slice Ac N cc):=⟨p0,c1⟩;refine Bl [10] [2,7] [] 11 (fun wq:World=>wq.cell? ⟨w.heap.size,0,none⟩=some (.slice A p.steps.length c)∧wq.cell? ⟨bb,1,none⟩=some (.slice Ac N cc)) ?_
   iterate 10 (first|refine Ai ?_|refine An hS ?_)
   refine Aq fun K hK=>?_;go_simp
   refine Aj hK ?_;clear hK K;refine Ah ?_;clear hS;go_wp2_with fail
   go_loopw [78] (fun i wr=>EmJ w B bb pv ps code ls p.steps (w.heap.size+1) (.slice Af F cf) i wr) (fun i _=>F-(intOf i).toNat)
   case atStart=>exact HI1.out
   case round =>
    clear HI1;obtain⟨m,cv3,hm,rfl,hbg,hfx,hL,hF⟩:=hrel;rw[hFL] at hm;by_cases hlt:m<F
    ·obtain⟨q,hq⟩:∃ q,(Bu.jumps p.steps p.steps.length)[m]?=some q:=⟨_,List.getElem?_eq_getElem (by unfold Bu.fixups at hFL;rw[List.length_map] at hFL;omega)⟩;obtain⟨hql,s,hs,hjp⟩:=(Bu.jumps_mem p.steps).1 (List.mem_of_getElem? hq);obtain⟨r,hr,hfix⟩:=HPJ.out _ _ hs hjp;have hgo:=(HFINE.out _ (List.mem_of_getElem? hs)).2.2.2;have hba:=Bu.begins_all ls s.go;have hfm:(Bu.fixups ls p.steps code.length p.steps.length)[m]?=some (code.length+Bu.begins ls q,s.go):=by
      unfold Bu.fixups;rw[List.getElem?_map,hq];simp[List.getD_eq_getElem?_getD,hs]
     obtain⟨hf1,hf2⟩:=Bu.fix_step ls p.steps HPL.out code m q hq r _ hr hfix;obtain⟨gf,cf',hgf,_,_,hgfl,hfc⟩:=Bb hfx (by omega);obtain⟨x0,x1⟩:=Jy hfm;have f0:=hfc _ _ x0;have f1:=hfc _ _ x1;have hbt:=Bu.bgs_at ls code.length p.steps.length (p.steps.length+1) s.go (by omega) Ad;obtain⟨g',c',hg',_,_,hgbl,hbgc⟩:=Bb hbg (by omega);have t0:=hbgc _ _ (Bf hbt);obtain⟨rfl,rfl⟩:w.heap.size+1=g'∧p.steps.length+1=c':=by simpa using hg'
     have hll:=(List.getElem?_eq_some_iff.1 hf1).1;obtain⟨ga,ca,hga,hca,_,hgal,_⟩:=Bb hL.code (Nat.lt_of_le_of_lt (Nat.zero_le _) hll);subst hga;have hLT:=Bu.fl_len ls p.steps HPL.out (fun k=>((Bu.jumps p.steps p.steps.length).take m).contains k);have hLL2:(code++(Bu.fl ls p.steps fun k=>((Bu.jumps p.steps p.steps.length).take m).contains k).flatten).length=code.length+ls.flatten.length:=by rw[List.length_append,hLT]
     have hAF:(Af=some ⟨gf,0,none⟩)∧cf=cf':=by
      rw[hFL] at hgf
      simpa using hgf
     obtain⟨rfl,rfl⟩:=hAF;generalize ha2:code.length+Bu.begins ls q=a2 at *;generalize hb2:code.length+Bu.begins ls s.go=b2 at *;have hv:((Bu.begins ls s.go:Nat):Int)-(Bu.begins ls q:Nat)-1=(b2:Int)-a2-1:=by omega
     rw[hv] at hf2;have hw1:IntKind.i64.wrap ((b2:Int)-a2)=b2-a2:=IntWalk.i64_in _ (by omega);have hw2:IntKind.i64.wrap ((b2:Int)-a2-1)=b2-a2-1:=IntWalk.i64_in _ (by omega);have hzw:=hF.below.size;have hL4:=(hL.alloc (.cells #[.int .i64 (a2:Int),.int .i64 (s.go:Int)] 150)).drew;obtain⟨hL5,hF5⟩:=hL.setN (g:=ga) rfl hf1 ((b2:Int)-a2-1);obtain⟨_,_,acs5,hgb5⟩:=Ag hL.code (g:=ga) rfl;rw[hf2] at hL5;obtain⟨_,_,acs,hgb⟩:=Ag hL4.code (g:=ga) rfl;have fza:=hgb.frozen (a2*5+4);have hal:=hL4.code;have c1:=Ab hL.blk 1 rfl;have hca4:∃ u,(wr.alloc (.cells #[.int .i64 (a2:Int),.int .i64 (s.go:Int)] 150)).cell? ⟨ga,a2*5+4,none⟩=some u:=by
      obtain⟨_,_,e,_,_,_,hcs⟩:=Bb hal (Nat.lt_of_le_of_lt (Nat.zero_le _) hll);simp only[Value.slice.injEq,Option.some.injEq,Addr.mk.injEq,and_true,true_and] at e;obtain⟨rfl,rfl⟩:=e;exact⟨_,hcs _ _ (List.getElem?_eq_getElem (by rw[Hu];omega))⟩
     obtain⟨ua,hua⟩:=hca4;have HR:Hid (EmJ w B bb pv ps code ls p.steps (w.heap.size+1) (.slice (some ⟨gf,0,none⟩) F cf) (.int .i64 ((m:Int)+1)) ((wr.setCell ⟨ga,a2*5+4,none⟩ (.int .i64 ((b2:Int)-a2-1))).alloc (.cells #[.int .i64 (a2:Int),.int .i64 (s.go:Int)] 150)).drew):=Aa ⟨m+1,_,by omega,by simp,((Be hbg hgb5 (by decide) _ _).alloc _).drew,((Be hfx hgb5 (by decide) _ _).alloc _).drew,(hL5.alloc _).drew,((hF.trans hF5).alloc (by simp[World.setCell];omega) _).drew⟩;have hbl:=hL.blk.lt;generalize hLL:(code++(Bu.fl ls p.steps fun k=>((Bu.jumps p.steps p.steps.length).take m).contains k).flatten).length=LL at *;have hi1:(m:Int)<F:=by omega
     have hi2:(s.go:Int)<(p.steps.length:Int)+1:=by omega
     have hi3:(a2:Int)<LL:=by omega
     have hz1:bb<wr.heap.size:=hbl;have t1:=(World.cell?_alloc_lt wr (.cells #[.int .i64 (a2:Int),.int .i64 (s.go:Int)] 150) ⟨w.heap.size+1,s.go,none⟩ hgbl).trans t0;have c2:=(World.cell?_alloc_lt wr (.cells #[.int .i64 (a2:Int),.int .i64 (s.go:Int)] 150) ⟨bb,1,none⟩ hbl).trans c1;have n0:(wr.alloc (.cells #[.int .i64 (a2:Int),.int .i64 (s.go:Int)] 150)).cell? ⟨wr.heap.size,0,none⟩=some (.int .i64 (a2:Int)):=(Blk.new wr _ _).cell 0;have n1:(wr.alloc (.cells #[.int .i64 (a2:Int),.int .i64 (s.go:Int)] 150)).cell? ⟨wr.heap.size,1,none⟩=some (.int .i64 (s.go:Int)):=(Blk.new wr _ _).cell 1;clear hLL2 hll hLL hL hF hbg hfx hL4 hL5 hF5 hgb5 hal hf1 hf2 hfix hr hfm hfc hbgc hbt hgf hg' hq hs hLT x0 x1 hgb hjp;go_wp2_with fail
     have hS:(wr.alloc (.cells #[.int .i64 (a2:Int),.int .i64 (s.go:Int)] 150)).drew.cell? ⟨bb,1,none⟩=some (.slice (some ⟨ga,0,none⟩) LL ca)∧(wr.alloc (.cells #[.int .i64 (a2:Int),.int .i64 (s.go:Int)] 150)).drew.cell? ⟨wr.heap.size,0,none⟩=some (.int .i64 (a2:Int))∧(wr.alloc (.cells #[.int .i64 (a2:Int),.int .i64 (s.go:Int)] 150)).drew.cell? ⟨wr.heap.size,1,none⟩=some (.int .i64 (s.go:Int))∧(wr.alloc (.cells #[.int .i64 (a2:Int),.int .i64 (s.go:Int)] 150)).drew.cell? ⟨w.heap.size+1,s.go,none⟩=some (.int .i64 (b2:Int)):=⟨c2,n0,n1,t1⟩;refine Bl [17] [3,5,8,10,12] [] 18 (fun wq:World=>wq.cell? ⟨bb,1,none⟩=some (.slice (some ⟨ga,0,none⟩) LL ca)∧wq.cell? ⟨wr.heap.size,0,none⟩=some (.int .i64 (a2:Int))∧wq.cell? ⟨wr.heap.size,1,none⟩=some (.int .i64 (s.go:Int))∧wq.cell? ⟨w.heap.size+1,s.go,none⟩=some (.int .i64 (b2:Int))) ?_
     iterate 17 (first|refine Ai ?_|refine An hS ?_)
     refine Aq fun K hK=>?_;go_simp
     refine Aj hK ?_;clear hK K;refine Ah ?_;clear hS;go_wp2_with fail
     go_roundw
     case rel=>exact HR.out
     case measure=>simp[intOf];omega
    ·have hmF:(Bu.jumps p.steps p.steps.length).length≤m:=by
      unfold Bu.fixups at hFL;rw[List.length_map] at hFL;omega
     rw[List.take_of_length_le hmF,HDONE.out] at hL;have HR:Hid (BuPost w B bb pv ps (code++T) (.returned (.tuple #[])) wr):=Aa ⟨rfl,⟨_,hL⟩,hF⟩;obtain rfl:m=F:=by omega
     clear hL hF hbg hfx hmF;go_wp2_with fail
     go_end0;exact HR.out
end Go.Proofs.YtnhebmgibiomnaaGreat

/- Parts of the proof, joined: SrL SrA SrB SrC SrD SrE. -/
import Derived.Deep.Light
import Derived.Test.YtnhebmgibiomnaaGreatPb6
set_option linter.unusedVariables false
set_option linter.unusedSimpArgs false
set_option maxRecDepth 100000
set_option maxHeartbeats 8000000
namespace Go.Proofs.YtnhebmgibiomnaaGreat
open Go.RowKit Mc
namespace Sr
structure Ok (s:St):Prop where
 rl:s.regs.length=64
 rk:∀ x∈s.regs,K32 x
 m:Mc.Ok s.m
end Sr
structure SLay where
 og:Value
 cu:Value
 tq:Value
 en:Value
 co:Value
 cv:Value
 st:Value
def Qm (L:SLay) (s:Sr.St):List Value:=[L.og,L.cu,L.tq,L.en,L.co,L.cv,L.st,.int .i64 s.m.size,.int .i64 s.m.look,.int .i64 s.m.move,.int .i64 s.m.mode,.int .i64 (s.pc:Int),.int .i64 (s.steps:Int)]
def Co (L:SLay) (s:Sr.St):Array Value:=(ints s.regs++Qm L s).toArray
theorem Zcx {L:SLay} {s:Sr.St} (hl:s.regs.length=64) {i:Nat} (hi:i<64):(Co L s)[i]?=some (.int .i64 (s.regs.getD i 0)):=by
 unfold Co;rw[List.getElem?_toArray,List.getElem?_append_left (by rw[Bw];omega)];unfold ints;rw[List.getElem?_map,List.getElem?_eq_getElem (by omega),List.getD_eq_getElem?_getD,List.getElem?_eq_getElem (by omega)];rfl
theorem Ee {L:SLay} {s:Sr.St} (hl:s.regs.length=64) (j:Nat):(Co L s)[64+j]?=(Qm L s)[j]?:=by
 unfold Co;rw[List.getElem?_toArray,List.getElem?_append_right (by rw[Bw];omega),Bw,hl,Nat.add_sub_cancel_left]
theorem Si {L:SLay} {s:Sr.St} (hl:s.regs.length=64) {i:Nat} (hi:i<64) (v:Int):(Co L s).setIfInBounds i (.int .i64 v)=Co L { s with regs:=s.regs.set i v } := by
 unfold Co;rw[List.setIfInBounds_toArray,List.set_append_left _ _ (by rw[Bw];omega)];unfold ints;rw[List.map_set];rfl
theorem Hh {L L':SLay} {s s':Sr.St} (hl:s.regs.length=64) (hr:s'.regs=s.regs) (j:Nat) (u:Value) (ht:(Qm L s).set j u=Qm L' s'):(Co L s).setIfInBounds (64+j) u=Co L' s':=by
 unfold Co;rw[List.setIfInBounds_toArray,List.set_append_right _ _ (by rw[Bw];omega),Bw,hl,Nat.add_sub_cancel_left,ht,hr]
def SrS (L:SLay) (sb:Nat) (k:Nat):Prop:=k=sb∨L.cu.ownBlock=some k∨L.tq.ownBlock=some k∨L.cv.ownBlock=some k∨L.st.ownBlock=some k
structure SrL (w:World) (sb:Nat) (L:SLay) (s:Sr.St):Prop where
 blk:Blk w sb 104 (Co L s)
 og:w.ownsRow 0 76 2 L.og s.m.org.length (pts s.m.org)
 cu:w.ownsRow 0 76 2 L.cu s.m.cur.length (pts s.m.cur)
 tq:w.ownsRow 0 3 1 L.tq s.m.touch.length (ints s.m.touch)
 en:w.ownsRow 0 3 1 L.en s.m.ends.length (ints s.m.ends)
 co:w.ownsRow 0 157 2 L.co s.m.cont.length (cts s.m.cont)
 cv:w.ownsRow 0 3 1 L.cv s.m.cvt.length (ints s.m.cvt)
 st:w.ownsRow 0 3 1 L.st s.m.store.length (ints s.m.store)
 ap_cu_og:Apart L.cu L.og
 ap_tq_en:Apart L.tq L.en
 ap_tq_cv:Apart L.tq L.cv
 ap_tq_st:Apart L.tq L.st
 ap_en_cv:Apart L.en L.cv
 ap_en_st:Apart L.en L.st
 ap_cv_st:Apart L.cv L.st
 ok:Sr.Ok s
section
variable {w w' : World} {sb : Nat} {L : SLay} {s : Sr.St}
theorem SrL.reg (h:SrL w sb L s) {i:Nat} (hi:i<64):w.cell? ⟨sb,i,none⟩=some (.int .i64 (s.regs.getD i 0)):=(h.blk.cell i).trans (Zcx h.ok.rl hi)
theorem SrL.c64 (h:SrL w sb L s):w.cell? ⟨sb,64,none⟩=some L.og:=(h.blk.cell 64).trans (Ee h.ok.rl 0)
theorem SrL.c65 (h:SrL w sb L s):w.cell? ⟨sb,65,none⟩=some L.cu:=(h.blk.cell 65).trans (Ee h.ok.rl 1)
theorem SrL.c66 (h:SrL w sb L s):w.cell? ⟨sb,66,none⟩=some L.tq:=(h.blk.cell 66).trans (Ee h.ok.rl 2)
theorem SrL.c67 (h:SrL w sb L s):w.cell? ⟨sb,67,none⟩=some L.en:=(h.blk.cell 67).trans (Ee h.ok.rl 3)
theorem SrL.c68 (h:SrL w sb L s):w.cell? ⟨sb,68,none⟩=some L.co:=(h.blk.cell 68).trans (Ee h.ok.rl 4)
theorem SrL.c69 (h:SrL w sb L s):w.cell? ⟨sb,69,none⟩=some L.cv:=(h.blk.cell 69).trans (Ee h.ok.rl 5)
theorem SrL.c70 (h:SrL w sb L s):w.cell? ⟨sb,70,none⟩=some L.st:=(h.blk.cell 70).trans (Ee h.ok.rl 6)
theorem SrL.c71 (h:SrL w sb L s):w.cell? ⟨sb,71,none⟩=some (.int .i64 s.m.size):=(h.blk.cell 71).trans (Ee h.ok.rl 7)
theorem SrL.c72 (h:SrL w sb L s):w.cell? ⟨sb,72,none⟩=some (.int .i64 s.m.look):=(h.blk.cell 72).trans (Ee h.ok.rl 8)
theorem SrL.c73 (h:SrL w sb L s):w.cell? ⟨sb,73,none⟩=some (.int .i64 s.m.move):=(h.blk.cell 73).trans (Ee h.ok.rl 9)
theorem SrL.c74 (h:SrL w sb L s):w.cell? ⟨sb,74,none⟩=some (.int .i64 s.m.mode):=(h.blk.cell 74).trans (Ee h.ok.rl 10)
theorem SrL.c75 (h:SrL w sb L s):w.cell? ⟨sb,75,none⟩=some (.int .i64 (s.pc:Int)):=(h.blk.cell 75).trans (Ee h.ok.rl 11)
theorem SrL.c76 (h:SrL w sb L s):w.cell? ⟨sb,76,none⟩=some (.int .i64 (s.steps:Int)):=(h.blk.cell 76).trans (Ee h.ok.rl 12)
theorem SrL.keep (h:SrL w sb L s) (hk:∀ k,(k=sb∨L.og.ownBlock=some k∨L.cu.ownBlock=some k∨L.tq.ownBlock=some k∨L.en.ownBlock=some k∨L.co.ownBlock=some k∨L.cv.ownBlock=some k∨L.st.ownBlock=some k)→w'.heap[k]?=w.heap[k]?):SrL w' sb L s :=
 ⟨(hk sb (.inl rfl)).trans h.blk,Bo h.og (fun g e=>hk g (by simp[e])),Bo h.cu (fun g e=>hk g (by simp[e])),Bo h.tq (fun g e=>hk g (by simp[e])),Bo h.en (fun g e=>hk g (by simp[e])),Bo h.co (fun g e=>hk g (by simp[e])),Bo h.cv (fun g e=>hk g (by simp[e])),Bo h.st (fun g e=>hk g (by simp[e])),h.ap_cu_og,h.ap_tq_en,h.ap_tq_cv,h.ap_tq_st,h.ap_en_cv,h.ap_en_st,h.ap_cv_st,h.ok⟩
theorem SrL.lt (h:SrL w sb L s) {k:Nat} (hk:k=sb∨L.og.ownBlock=some k∨L.cu.ownBlock=some k∨L.tq.ownBlock=some k∨L.en.ownBlock=some k∨L.co.ownBlock=some k∨L.cv.ownBlock=some k∨L.st.ownBlock=some k):k<w.heap.size:=by
 rcases hk with rfl|e|e|e|e|e|e|e
 ·exact h.blk.lt
 ·exact(Ag h.og e).2.1
 ·exact(Ag h.cu e).2.1
 ·exact(Ag h.tq e).2.1
 ·exact(Ag h.en e).2.1
 ·exact(Ag h.co e).2.1
 ·exact(Ag h.cv e).2.1
 ·exact(Ag h.st e).2.1
theorem SrL.grow (h:SrL w sb L s) (hg:Grow w w'):SrL w' sb L s:=h.keep fun k hk=>hg.block k (h.lt hk) (fun x=>x)
theorem SrL.own (h:SrL w sb L s) {i:Nat} {u:Value} {s':Sr.St} (hc:(Co L s).setIfInBounds i u=Co L s') (ho:s'.m.org=s.m.org) (hcu:s'.m.cur=s.m.cur) (ht:s'.m.touch=s.m.touch) (he:s'.m.ends=s.m.ends) (hco:s'.m.cont=s.m.cont) (hcv:s'.m.cvt=s.m.cvt) (hst:s'.m.store=s.m.store) (hok:Sr.Ok s'):SrL (w.setCell ⟨sb,i,none⟩ u) sb L s':=by
 refine⟨hc ▸ h.blk.set_ i u,?_,?_,?_,?_,?_,?_,?_,h.ap_cu_og,h.ap_tq_en,h.ap_tq_cv,h.ap_tq_st,h.ap_en_cv,h.ap_en_st,h.ap_cv_st,hok⟩
 ·rw[ho];exact Be h.og h.blk (by decide) i u
 ·rw[hcu];exact Be h.cu h.blk (by decide) i u
 ·rw[ht];exact Be h.tq h.blk (by decide) i u
 ·rw[he];exact Be h.en h.blk (by decide) i u
 ·rw[hco];exact Be h.co h.blk (by decide) i u
 ·rw[hcv];exact Be h.cv h.blk (by decide) i u
 ·rw[hst];exact Be h.st h.blk (by decide) i u
theorem SrL.setReg (h:SrL w sb L s) {i:Nat} (hi:i<64) {v:Int} (hv:K32 v):SrL (w.setCell ⟨sb,i,none⟩ (.int .i64 v)) sb L { s with regs:=s.regs.set i v } :=
 h.own (Si h.ok.rl hi v) rfl rfl rfl rfl rfl rfl rfl ⟨by simp[h.ok.rl],fun x hx=>by rcases List.mem_or_eq_of_mem_set hx with hx|rfl;exact h.ok.rk x hx;exact hv,h.ok.m⟩
theorem SrL.setLook (h:SrL w sb L s) {v:Int} (hv:0≤v∧v≤1):SrL (w.setCell ⟨sb,72,none⟩ (.int .i64 v)) sb L { s with m := { s.m with look:=v } } :=
 h.own (Hh (L:=L) (L':=L) (s:=s) (s' := { s with m := { s.m with look:=v } }) h.ok.rl rfl 8 (.int .i64 v) rfl) rfl rfl rfl rfl rfl rfl rfl ⟨h.ok.rl,h.ok.rk,{ h.ok.m with look:=hv }⟩
theorem SrL.setMove (h:SrL w sb L s) {v:Int} (hv:0≤v∧v≤1):SrL (w.setCell ⟨sb,73,none⟩ (.int .i64 v)) sb L { s with m := { s.m with move:=v } } :=
 h.own (Hh (L:=L) (L':=L) (s:=s) (s' := { s with m := { s.m with move:=v } }) h.ok.rl rfl 9 (.int .i64 v) rfl) rfl rfl rfl rfl rfl rfl rfl ⟨h.ok.rl,h.ok.rk,{ h.ok.m with move:=hv }⟩
theorem SrL.setMode (h:SrL w sb L s) {v:Int} (hv:0≤v∧v≤5):SrL (w.setCell ⟨sb,74,none⟩ (.int .i64 v)) sb L { s with m := { s.m with mode:=v } } :=
 h.own (Hh (L:=L) (L':=L) (s:=s) (s' := { s with m := { s.m with mode:=v } }) h.ok.rl rfl 10 (.int .i64 v) rfl) rfl rfl rfl rfl rfl rfl rfl ⟨h.ok.rl,h.ok.rk,{ h.ok.m with mode:=hv }⟩
theorem SrL.setPc (h:SrL w sb L s) (v:Nat):SrL (w.setCell ⟨sb,75,none⟩ (.int .i64 (v:Int))) sb L { s with pc:=v } :=
 h.own (Hh (L:=L) (L':=L) (s:=s) (s' := { s with pc:=v }) h.ok.rl rfl 11 (.int .i64 (v:Int)) rfl) rfl rfl rfl rfl rfl rfl rfl ⟨h.ok.rl,h.ok.rk,h.ok.m⟩
theorem SrL.setSteps (h:SrL w sb L s) (v:Nat):SrL (w.setCell ⟨sb,76,none⟩ (.int .i64 (v:Int))) sb L { s with steps:=v } :=
 h.own (Hh (L:=L) (L':=L) (s:=s) (s' := { s with steps:=v }) h.ok.rl rfl 12 (.int .i64 (v:Int)) rfl) rfl rfl rfl rfl rfl rfl rfl ⟨h.ok.rl,h.ok.rk,h.ok.m⟩
theorem Cg {base size n g:Nat} {t:TypeId} {v:Value} {xs:List Value} (h:w.ownsRow base t size v n xs) (hg:v.ownBlock=some g) {j:Nat} (hj:j<xs.length) (u:Value):(w.setCell ⟨g,j,none⟩ u).ownsRow base t size v n (xs.set j u):=by
 rcases h.2 with⟨rfl,_⟩|⟨g',cap,cur,rfl,hb,hh,h1,h2,h3,h4⟩
 ·simp[Value.ownBlock] at hg
 ·simp only[Value.ownBlock,Option.some.injEq] at hg;subst hg;have hk:Blk w g' t cur:=hh;refine⟨by rw[List.length_set];exact h.1,.inr ⟨g',cap,cur.setIfInBounds j u,rfl,hb,hk.set_ j u,h1,h2,by rw[Array.size_setIfInBounds];exact h3,?_⟩⟩;rw[Array.toList_setIfInBounds,List.take_set,h4]
theorem Ek {base base' size size' n n' g:Nat} {t:TypeId} {v v':Value} {xs xs':List Value} (h:w.ownsRow base t size v n xs) (_h':w.ownsRow base' t size' v' n' xs') (ha:Apart v v') (hg:v'.ownBlock=some g) (j:Nat) (u:Value):(w.setCell ⟨g,j,none⟩ u).ownsRow base t size v n xs :=
 Bo h fun k e=>Below.heap_setCell _ _ _ _ (fun e2:k=g=>ha k e (e2 ▸ hg))
theorem Ca {base base' size size' n n' g:Nat} {t t':TypeId} {v v':Value} {xs xs':List Value} (h:w.ownsRow base t size v n xs) (h':w.ownsRow base' t' size' v' n' xs') (ht:t≠t') (hg:v'.ownBlock=some g) (j:Nat) (u:Value):(w.setCell ⟨g,j,none⟩ u).ownsRow base t size v n xs :=
 Bo h fun k e=>Below.heap_setCell _ _ _ _ (fun e2:k=g=>Fc h h' ht k e (e2 ▸ hg))
theorem He {base size n g:Nat} {t t':TypeId} {v:Value} {xs:List Value} {cs:Array Value} (hb:Blk w sb t' cs) (h:w.ownsRow base t size v n xs) (ht:t'≠t) (hg:v.ownBlock=some g) (j:Nat) (u:Value):Blk (w.setCell ⟨g,j,none⟩ u) sb t' cs:=by
 obtain⟨_,_,cs',hb'⟩:=Ag h hg;exact hb.far (p:=⟨g,j,none⟩) (hb.ne_ hb' ht) u
theorem SrL.setCv (h:SrL w sb L s) {g:Nat} (hg:L.cv.ownBlock=some g) {i:Nat} (hi:i<s.m.cvt.length) {v:Int} (hv:K32 v):SrL (w.setCell ⟨g,i,none⟩ (.int .i64 v)) sb L { s with m := { s.m with cvt:=s.m.cvt.set i v } } := by
 refine⟨He h.blk h.cv (by decide) hg _ _,Ca h.og h.cv (by decide) hg _ _,Ca h.cu h.cv (by decide) hg _ _,Ek h.tq h.cv h.ap_tq_cv hg _ _,Ek h.en h.cv h.ap_en_cv hg _ _,Ca h.co h.cv (by decide) hg _ _,?_,Ek h.st h.cv h.ap_cv_st.symm hg _ _,h.ap_cu_og,h.ap_tq_en,h.ap_tq_cv,h.ap_tq_st,h.ap_en_cv,h.ap_en_st,h.ap_cv_st,⟨h.ok.rl,h.ok.rk,{ h.ok.m with cvt:=Fl h.ok.m.cvt hv,cvl:=by simpa using h.ok.m.cvl }⟩⟩;have:=Cg h.cv hg (j:=i) (by rw[Bw];exact hi) (.int .i64 v);rw[←Dr] at this
 simpa using this
theorem SrL.setSt (h:SrL w sb L s) {g:Nat} (hg:L.st.ownBlock=some g) {i:Nat} (hi:i<s.m.store.length) {v:Int} (hv:K32 v):SrL (w.setCell ⟨g,i,none⟩ (.int .i64 v)) sb L { s with m := { s.m with store:=s.m.store.set i v } } := by
 refine⟨He h.blk h.st (by decide) hg _ _,Ca h.og h.st (by decide) hg _ _,Ca h.cu h.st (by decide) hg _ _,Ek h.tq h.st h.ap_tq_st hg _ _,Ek h.en h.st h.ap_en_st hg _ _,Ca h.co h.st (by decide) hg _ _,Ek h.cv h.st h.ap_cv_st hg _ _,?_,h.ap_cu_og,h.ap_tq_en,h.ap_tq_cv,h.ap_tq_st,h.ap_en_cv,h.ap_en_st,h.ap_cv_st,⟨h.ok.rl,h.ok.rk,{ h.ok.m with store:=Fl h.ok.m.store hv,stl:=by simpa using h.ok.m.stl }⟩⟩;have:=Cg h.st hg (j:=i) (by rw[Bw];exact hi) (.int .i64 v);rw[←Dr] at this
 simpa using this
theorem SrL.setTq (h:SrL w sb L s) {g:Nat} (hg:L.tq.ownBlock=some g) {i:Nat} (hi:i<s.m.touch.length) {v:Int} (hv:0≤v∧v≤3):SrL (w.setCell ⟨g,i,none⟩ (.int .i64 v)) sb L { s with m := { s.m with touch:=s.m.touch.set i v } } := by
 refine⟨He h.blk h.tq (by decide) hg _ _,Ca h.og h.tq (by decide) hg _ _,Ca h.cu h.tq (by decide) hg _ _,?_,Ek h.en h.tq h.ap_tq_en.symm hg _ _,Ca h.co h.tq (by decide) hg _ _,Ek h.cv h.tq h.ap_tq_cv.symm hg _ _,Ek h.st h.tq h.ap_tq_st.symm hg _ _,h.ap_cu_og,h.ap_tq_en,h.ap_tq_cv,h.ap_tq_st,h.ap_en_cv,h.ap_en_st,h.ap_cv_st,⟨h.ok.rl,h.ok.rk,{ h.ok.m with touch:=Fl h.ok.m.touch hv,tl:=by simpa using h.ok.m.tl }⟩⟩;have:=Cg h.tq hg (j:=i) (by rw[Bw];exact hi) (.int .i64 v);rw[←Dr] at this
 simpa using this
theorem Vv:∀ {l:List (Int×Int)} {i:Nat} {x:Int×Int} (_:l[i]?=some x) (axis v:Int),(pts l).set (i*2+(if axis=1 then 1 else 0)) (.int .i64 v)=pts (l.set i (if axis=1 then(x.1,v) else(v,x.2)))
 | a::l,0,x,h,axis,v=>by
  simp only[List.getElem?_cons_zero,Option.some.injEq] at h;subst h;split <;> simp[pts]
 | a::l,i+1,x,h,axis,v=>by
  have ih:=Vv (l:=l) (i:=i) (x:=x) h axis v;rw[show (i+1)*2+(if axis=1 then 1 else 0)=(i*2+(if axis=1 then 1 else 0))+1+1 by omega];have:(pts (a::l)).set (i*2+(if axis=1 then 1 else 0)+1+1) (.int .i64 v)=.int .i64 a.1::.int .i64 a.2::(pts l).set (i*2+(if axis=1 then 1 else 0)) (.int .i64 v):=rfl;rw[this,ih];rfl
 | [],i,x,h,_,_=>by simp at h
theorem SrL.setCu (h:SrL w sb L s) {g:Nat} (hg:L.cu.ownBlock=some g) {i:Nat} {x:Int×Int} (hx:s.m.cur[i]?=some x) (axis:Int) (v:Int) (hv:K32 v) (hxk:K32 x.1∧K32 x.2) :
  SrL (w.setCell ⟨g,i*2+(if axis=1 then 1 else 0),none⟩ (.int .i64 v)) sb L { s with m := { s.m with cur:=s.m.cur.set i (if axis=1 then(x.1,v) else(v,x.2)) } } := by
 have hi:=(List.getElem?_eq_some_iff.1 hx).1;refine⟨He h.blk h.cu (by decide) hg _ _,Ek h.og h.cu h.ap_cu_og.symm hg _ _,?_,Ca h.tq h.cu (by decide) hg _ _,Ca h.en h.cu (by decide) hg _ _,Ca h.co h.cu (by decide) hg _ _,Ca h.cv h.cu (by decide) hg _ _,Ca h.st h.cu (by decide) hg _ _,h.ap_cu_og,h.ap_tq_en,h.ap_tq_cv,h.ap_tq_st,h.ap_en_cv,h.ap_en_st,h.ap_cv_st,⟨h.ok.rl,h.ok.rk,{ h.ok.m with cur:=fun p hp=>?_,orgl:=by simpa using h.ok.m.orgl,tl:=by simpa using h.ok.m.tl,cont:=by simpa using h.ok.m.cont,curl:=by simpa using h.ok.m.curl }⟩⟩
 ·have hset:=Cg h.cu hg (j:=i*2+(if axis=1 then 1 else 0)) (by rw[Fj];split <;> omega) (.int .i64 v);have e:=Vv hx axis v;rw[e] at hset
  simpa using hset
 ·rcases List.mem_or_eq_of_mem_set hp with hp|rfl
  ·exact h.ok.m.cur p hp
  ·split
   ·exact⟨hxk.1,hv⟩
   ·exact⟨hv,hxk.2⟩
end
def SPost (w:World) (sb:Nat) (L:SLay) (s:Sr.St) (e:Ending) (w':World):Prop:=e=.returned (.tuple #[])∧SrL w' sb L s∧Fr (SrS L sb) w w'
end Go.Proofs.YtnhebmgibiomnaaGreat
namespace Go.Proofs.YtnhebmgibiomnaaGreat
open Go.RowKit Mc
theorem Cf (n:Int) (w:World):Calls Tryz.prog 72 #[.int .i64 n] w fun e w'=>e=.returned (.int .i64 (k32 n))∧w=w':=by
 go_enter Tryz.func72,Tryz.ntmps72;go_wp2;go_ret;exact⟨Bi (Lv n),rfl⟩
theorem Gr (n d:Int) (w:World) (hd:0<d) (hd2:d≤1000):Calls Tryz.prog 134 #[.int .i64 n,.int .i64 d] w fun e w'=>e=.returned (.int .i64 (n % d))∧w=w':=by
 have hm:=Aa (Mm n d hd);have h2:=Int.emod_nonneg n (show d≠0 by omega);have h3:=Int.emod_lt_of_pos n hd;go_enter Tryz.func134,Tryz.ntmps134;go_wp2
 all_goals go_ret
 ·have hm:=hm.out;rw[if_pos ‹_›] at hm;exact⟨Bi (by rw[hm];exact IntWalk.wrap64_in _ (by omega)),rfl⟩
 ·have hm:=hm.out;rw[if_neg (by omega)] at hm;exact⟨Bi hm.symm,rfl⟩
theorem Fh (a b:Int) (w:World):Calls Tryz.prog 111 #[.int .i64 a,.int .i64 b] w fun e w'=>e=.returned (.int .i64 (Mc.w64 (Mc.divd a b)))∧w=w':=by
 by_cases hb:b=0
 ·subst hb;go_enter Tryz.func111,Tryz.ntmps111;go_wp2;go_ret;exact⟨Bi rfl,rfl⟩
 ·have hdv:Mc.divd a b=a.fdiv b:=by unfold Mc.divd;rw[if_neg hb]
  have HF:=Aa (Nr a b hb);have HD:=Aa hdv;have h1:(b==0)=false:=beq_eq_false_iff_ne.2 hb;clear hdv;by_cases hc:a.tmod b≠0∧(decide (a<0)≠decide (b<0))
  ·have e1:(a.tmod b !=0)=true:=bne_iff_ne.2 hc.1;have e2:(decide (a<0)==decide (b<0))=false:=beq_eq_false_iff_ne.2 hc.2;have HC:=Aa hc;obtain⟨hc1,_⟩:=hc;go_enter Tryz.func111,Tryz.ntmps111;go_wp2;go_ret;refine⟨Bi ?_,rfl⟩;rw[HD.out,HF.out,if_pos HC.out];exact Um _
  ·have HC:=Aa hc;clear hc;by_cases hz:a.tmod b=0
   ·have e1:(a.tmod b !=0)=false:=by simp[hz]
    go_enter Tryz.func111,Tryz.ntmps111;go_wp2;go_ret;refine⟨Bi ?_,rfl⟩;rw[HD.out,HF.out,if_neg HC.out];exact Ed _
   ·have e1:(a.tmod b !=0)=true:=bne_iff_ne.2 hz;have e2:(decide (a<0)==decide (b<0))=true:=by
     rcases hd:(decide (a<0)==decide (b<0)) with _|_
     ·exact absurd ⟨hz,beq_eq_false_iff_ne.1 hd⟩ HC.out
     ·rfl
    go_enter Tryz.func111,Tryz.ntmps111;go_wp2;go_ret;refine⟨Bi ?_,rfl⟩;rw[HD.out,HF.out,if_neg HC.out];exact Ed _
theorem Du (b:Bool) (w:World):Calls Tryz.prog 121 #[.bool b] w fun e w'=>e=.returned (.int .i64 (Mc.truth b))∧w=w':=by
 cases b
 all_goals
  go_enter Tryz.func121,Tryz.ntmps121;go_wp2;go_ret;exact⟨rfl,rfl⟩
theorem Cc (b off:Nat) (a:Int) (w:World) (h0:0≤a) (h1:a≤1):Calls Tryz.prog 227 #[.pointer (some ⟨b,off,none⟩),.int .i64 a] w fun e w'=>e=.returned (.pointer (some ⟨b,off+(if a=1 then 1 else 0),none⟩))∧w=w':=by
 have h:a=0∨a=1:=by omega
 rcases h with rfl|rfl
 all_goals
  go_enter Tryz.func227,Tryz.ntmps227;go_wp2;go_ret;exact⟨rfl,rfl⟩
theorem Ww (op:Int) (w:World):Calls Tryz.prog 49 #[.int .i64 op] w fun e w'=>e=.returned (.bool (Sr.leaps op))∧w=w':=by
 by_cases h35:op=35
 ·subst h35;go_enter Tryz.func49,Tryz.ntmps49;go_wp2;go_ret;exact⟨rfl,rfl⟩
 ·by_cases h36:op=36
  ·subst h36;go_enter Tryz.func49,Tryz.ntmps49;go_wp2;go_ret;exact⟨rfl,rfl⟩
  ·have b1:(op==35)=false:=by simpa using h35
   have b2:(op==36)=false:=by simpa using h36
   have e:Sr.leaps op=(op==41):=by unfold Sr.leaps;by_cases h:op=41 <;> simp[h35,h36,h]
   rw[e];clear e;go_enter Tryz.func49,Tryz.ntmps49;go_wp2;go_ret;exact⟨rfl,rfl⟩
theorem Fx (op:Int) (w:World) :
  Calls Tryz.prog 47 #[.int .i64 op] w fun e w'=>e=.returned (.tuple #[.int .i64 (Sr.uses op).1,.bool (Sr.uses op).2])∧w=w':=by
 go_enter Tryz.func47,Tryz.ntmps47;go_wp2
 all_goals (go_ret2;go_light;refine⟨?_,rfl⟩;simp_all [Sr.uses])
def Cu (r:Sr.Reg):Value:=.agg #[.int .i64 r.op,.int .i64 r.d,.int .i64 r.a,.int .i64 r.b,.int .i64 r.n]
def Ba:List Sr.Reg→List Value
 | []=>[]
 | x::r=>.int .i64 x.op::.int .i64 x.d::.int .i64 x.a::.int .i64 x.b::.int .i64 x.n::Ba r
theorem Hu (l:List Sr.Reg):(Ba l).length=l.length*5:=by induction l with|nil=>rfl|cons c r ih=>simp[Ba,ih];omega
theorem Dh (l:List Sr.Reg):∀ (i:Nat) (c:Sr.Reg),l[i]?=some c→(Ba l)[i*5]?=some (.int .i64 c.op)∧(Ba l)[i*5+1]?=some (.int .i64 c.d)∧(Ba l)[i*5+2]?=some (.int .i64 c.a)∧(Ba l)[i*5+3]?=some (.int .i64 c.b)∧(Ba l)[i*5+4]?=some (.int .i64 c.n):=by
 induction l with
 | nil=>intro i c h;simp at h
 | cons d r ih =>
  intro i c h;cases i with
  | zero=>simp at h;subst h;simp[Ba]
  | succ i =>
   have:=ih i c (by simpa using h);rw[show (i+1)*5=i*5+5 by omega]
   simpa [Ba] using this
theorem Nb (a b:List Sr.Reg):Ba (a++b)=Ba a++Ba b:=by
 induction a with
 | nil=>rfl
 | cons p r ih=>simp[Ba,ih]
def Zcs (k:Nat) (d a b u:Int):Prop :=
 (1≤k→u % 2=0∨Sr.rg d=true)∧(2≤k→u / 2 % 2=0∨Sr.rg a=true)∧(3≤k→u / 4 % 2=0∨Sr.rg b=true)
theorem Up (r:Sr.Reg) (u:Int) (w:World) (h0:0≤u) (h1:u≤7) :
  Calls Tryz.prog 48 #[Cu r,.int .i64 u] w fun e w'=>e=.returned (.bool (Sr.there r u))∧Below w.heap.size w w':=by
 obtain⟨op,d,a,b,n⟩:=r;have h:u=0∨u=1∨u=2∨u=3∨u=4∨u=5∨u=6∨u=7:=by omega
 have i0:∀ w:World,(Instr.index 170 (.agg #[.int .i64 d,.int .i64 a,.int .i64 b]) (.int .i64 0)).run Tryz.prog w=.ok (.int .i64 d) w:=fun _=>by kernel_rfl
 have i1:∀ w:World,(Instr.index 170 (.agg #[.int .i64 d,.int .i64 a,.int .i64 b]) (.int .i64 1)).run Tryz.prog w=.ok (.int .i64 a) w:=fun _=>by kernel_rfl
 have i2:∀ w:World,(Instr.index 170 (.agg #[.int .i64 d,.int .i64 a,.int .i64 b]) (.int .i64 2)).run Tryz.prog w=.ok (.int .i64 b) w:=fun _=>by kernel_rfl
 unfold Cu;have b0:bits BinOp.and IntKind.i64 u 1=u % 2:=by rcases h with rfl|rfl|rfl|rfl|rfl|rfl|rfl|rfl <;> kernel_rfl
 have b1:bits BinOp.and IntKind.i64 u 2=u / 2 % 2*2:=by rcases h with rfl|rfl|rfl|rfl|rfl|rfl|rfl|rfl <;> kernel_rfl
 have b2:bits BinOp.and IntKind.i64 u 4=u / 4 % 2*4:=by rcases h with rfl|rfl|rfl|rfl|rfl|rfl|rfl|rfl <;> kernel_rfl
 generalize hu:u=u0 at *;rcases h with rfl|rfl|rfl|rfl|rfl|rfl|rfl|rfl
 all_goals
  have HU:=Aa hu;clear h0 h1 hu;simp only[Int.reduceMod,Int.reduceDiv,Int.reduceMul] at b0 b1 b2;go_enter Tryz.func48,Tryz.ntmps48;go_wp2_with fail
  go_loopw [14] (fun i wr=>∃ k:Nat,k≤3∧i=.int .i64 k∧wr=w.alloc (.cells #[.int .i64 op,.int .i64 d,.int .i64 a,.int .i64 b,.int .i64 n] 50)∧Zcs k d a b u) (fun i _=>3-(intOf i).toNat)
  case atStart=>exact⟨0,by omega,rfl,rfl,⟨fun h=>absurd h (by decide),fun h=>absurd h (by decide),fun h=>absurd h (by decide)⟩⟩
  case round =>
   obtain⟨k,hk,rfl,rfl,hok⟩:=hrel;have HOK:=Aa hok;clear hok;rcases(show k=0∨k=1∨k=2∨k=3 by omega) with rfl|rfl|rfl|rfl
   ·rcases(show (0≤d∧d<64)∨d<0∨64≤d by omega) with⟨r0,r1⟩|r0|r0
    all_goals
     go_wp2
     first
     | exact⟨⟨1,by omega,rfl,trivial,⟨fun _=>by rw[HU.out];simp[Sr.rg] <;> omega,fun h=>absurd h (by decide),fun h=>absurd h (by decide)⟩⟩,by simp[intOf]⟩
     | (go_ret;exact⟨Bm (by simp[Sr.there,Sr.rg];omega),aliasBr.alloc Ad _⟩)
   ·rcases(show (0≤a∧a<64)∨a<0∨64≤a by omega) with⟨r0,r1⟩|r0|r0
    all_goals
     go_wp2
     first
     | exact⟨⟨2,by omega,rfl,trivial,⟨fun _=>HOK.out.1 (by decide),fun _=>by rw[HU.out];simp[Sr.rg] <;> omega,fun h=>absurd h (by decide)⟩⟩,by simp[intOf]⟩
     | (go_ret;exact⟨Bm (by simp[Sr.there,Sr.rg];omega),aliasBr.alloc Ad _⟩)
   ·rcases(show (0≤b∧b<64)∨b<0∨64≤b by omega) with⟨r0,r1⟩|r0|r0
    all_goals
     go_wp2
     first
     | exact⟨⟨3,by omega,rfl,trivial,⟨fun _=>HOK.out.1 (by decide),fun _=>HOK.out.2.1 (by decide),fun _=>by rw[HU.out];simp[Sr.rg] <;> omega⟩⟩,by simp[intOf]⟩
     | (go_ret;exact⟨Bm (by simp[Sr.there,Sr.rg];omega),aliasBr.alloc Ad _⟩)
   ·go_wp2;go_ret;refine⟨Bm ?_,aliasBr.alloc Ad _⟩;obtain⟨o1,o2,o3⟩:=HOK.out;have o1:=o1 (by decide);have o2:=o2 (by decide);have o3:=o3 (by decide);rw[HU.out] at o1 o2 o3;unfold Sr.there;simp at o1 o2 o3 ⊢
    try simp[o1,o2,o3]
theorem Sr.fitsAll_of:∀ {code:List Sr.Reg},(∀ (i:Nat) r,code[i]?=some r→Sr.fits r ((code.length:Int)-1-i)=true)→Sr.fitsAll code=true
 | [],_=>rfl
 | x::l,h=>by
  have h0:=h 0 x rfl;rw[show (((x::l).length:Nat):Int)-1-(0:Nat)=l.length by rw[List.length_cons];omega] at h0;simp only[Sr.fitsAll,h0,Bool.true_and];refine Sr.fitsAll_of fun i r hr=>?_
  have:=h (i+1) r (by simpa using hr);rw[show (((x::l).length:Nat):Int)-1-((i+1:Nat):Int)=(l.length:Int)-1-i by rw[List.length_cons];omega] at this;exact this
theorem Sr.right_no {code:List Sr.Reg} {i:Nat} {r:Sr.Reg} (h:code[i]?=some r) (hf:Sr.fits r ((code.length:Int)-1-i)=false):Sr.right code=false:=by
 have:Sr.fitsAll code=false:=by
  cases hx:Sr.fitsAll code with
  | false=>rfl
  | true=>rw[Sr.fitsAll_at hx h] at hf;cases hf
 unfold Sr.right;rw[this];simp
theorem Sr.uses_in (op:Int):0≤(Sr.uses op).1∧(Sr.uses op).1≤7:=by
 unfold Sr.uses
 repeat' split
 all_goals exact⟨by decide,by decide⟩
theorem Dw (A:Option Addr) (c B:Nat) (code:List Sr.Reg) (w:World) (hR:Reads w B 5 A code.length (Ba code)) (hB:B≤w.heap.size) (hn:code.length≤1000000000000) :
  Calls Tryz.prog 21 #[.slice A code.length c] w fun e w'=>e=.returned (.bool (Sr.right code))∧Below w.heap.size w w':=by
 have HR:=Aa hR;clear hR;by_cases h0:code.length<1
 ·have hr:Sr.right code=false:=by unfold Sr.right;rw[decide_eq_false (by omega)];rfl
  rw[hr];clear hr;generalize code.length=n at *;go_enter Tryz.func21,Tryz.ntmps21;go_wp2;go_ret;exact⟨rfl,aliasBr⟩
 by_cases h1:80000<code.length
 ·have hr:Sr.right code=false:=by unfold Sr.right;rw[decide_eq_false (by omega)];rfl
  rw[hr];clear hr;generalize code.length=n at *;go_enter Tryz.func21,Tryz.ntmps21;go_wp2;go_ret;exact⟨rfl,aliasBr⟩
 go_enter Tryz.func21,Tryz.ntmps21;go_wp2_with fail
 go_loopw [19] (fun i wr=>∃ k:Nat,k≤code.length∧i=.int .i64 k∧(∀ (j:Nat) r,j<k→code[j]?=some r→Sr.fits r ((code.length:Int)-1-j)=true)∧Below w.heap.size w wr) (fun i _=>code.length-(intOf i).toNat)
 case atStart=>exact⟨0,by omega,rfl,fun j r h=>absurd h (by omega),aliasBr⟩
 case round =>
  obtain⟨k,hk,rfl,hall,hb⟩:=hrel;have HALL:=Aa hall;clear hall;have hsz:=hb.size;have hFr:Reads wr B 5 A code.length (Ba code):=HR.out.below hb hB;by_cases hlt:k<code.length
  ·obtain⟨r,hr⟩:∃ r,code[k]?=some r:=⟨_,List.getElem?_eq_getElem hlt⟩;obtain⟨b,off,rfl,hbB,hcells⟩:=hFr.2 (by omega);obtain⟨g0,g1,g2,g3,g4⟩:=Dh code k r hr;have d0:=hcells _ _ g0;have d1:=hcells _ _ g1;have d2:=hcells _ _ g2;have d3:=hcells _ _ g3;have d4:=hcells _ _ g4;rw[←Nat.add_assoc] at d1 d2 d3 d4;have HRK:=Aa hr;have HFR:=Aa hFr;clear hcells g0 g1 g2 g3 g4 hr hFr;obtain⟨op,d,a,b',n⟩:=r;simp only at d0 d1 d2 d3 d4;go_wp2_with fail
   refine(Fx op _).mono ?_;rintro e w1 ⟨rfl,rfl⟩;obtain⟨u,ok,hu⟩:∃ u ok,Sr.uses op=(u,ok):=⟨_,_,rfl⟩;have hu07:=Sr.uses_in op;rw[hu] at hu07 ⊢;dsimp only at hu07;obtain⟨hu0,hu7⟩:=hu07;have HU:=Aa hu;clear hu;have HN:Hid (∀ w2,Below w.heap.size w w2→Sr.fits ⟨op,d,a,b',n⟩ ((code.length:Int)-1-k)=false→Ending.returned (Value.bool false)=.returned (.bool (Sr.right code))∧Below w.heap.size w w2):=Aa fun w2 h2 hf=>⟨Bm (Sr.right_no HRK.out hf).symm,h2⟩
   have hba:Below w.heap.size w (wr.alloc (.cells #[.int .i64 op,.int .i64 d,.int .i64 a,.int .i64 b',.int .i64 n] 50)):=hb.alloc hsz _;cases ok with
   | false =>
    go_wp2;go_ret;exact HN.out _ hba (by unfold Sr.fits;rw[HU.out];rfl)
   | true =>
    by_cases hm:(op=42∧k+1=code.length)∨(op≠42∧k+1<code.length)
    ·have hfit:Sr.fits ⟨op,d,a,b',n⟩ ((code.length:Int)-1-k)=(Sr.there ⟨op,d,a,b',n⟩ u && (!Sr.leaps op || decide (0≤n∧n<(code.length:Int)-1-k))):=by
      unfold Sr.fits;rw[HU.out];rcases hm with⟨h,h'⟩|⟨h,h'⟩
      ·subst h;rw[decide_eq_true (show (42:Int)=42 from rfl),decide_eq_true (show (code.length:Int)-1-k=0 by omega)];simp
      ·rw[decide_eq_false h,decide_eq_false (show ¬ (code.length:Int)-1-k=0 by omega)];simp
     have HFIT:=Aa hfit;clear hfit;have hgo:(op==42)=((code.length:Int)-1-k==0):=by
      rcases hm with⟨h,h'⟩|⟨h,h'⟩
      ·subst h;rw[show ((code.length:Int)-1-k==0)=true from beq_iff_eq.2 (by omega)];rfl
      ·rw[show (op==42)=false from beq_eq_false_iff_ne.2 h,show ((code.length:Int)-1-k==0)=false from beq_eq_false_iff_ne.2 (by omega)]
     clear hm;go_wp2_with fail
     refine(Up ⟨op,d,a,b',n⟩ u _ hu0 hu7).mono ?_;rintro e w2 ⟨rfl,hb2⟩;have hb3:Below w.heap.size w w2:=hba.trans (hb2.mono (by simp;omega));have c0:w2.cell? ⟨wr.heap.size,0,none⟩=some (.int .i64 op):=by rw[hb2.cell (by simp)];simp[go_sem]
     have c4:w2.cell? ⟨wr.heap.size,4,none⟩=some (.int .i64 n):=by rw[hb2.cell (by simp)];simp[go_sem]
     cases ht:Sr.there ⟨op,d,a,b',n⟩ u with
     | false =>
      have HT:=Aa ht;clear ht;go_wp2;go_ret;exact HN.out _ hb3 (by rw[HFIT.out,HT.out];rfl)
     | true =>
      have HT:=Aa ht;clear ht hb2 d0 d1 d2 d3 d4;go_wp2_with fail
      refine(Ww op _).mono ?_;rintro e w3 ⟨rfl,rfl⟩;cases hlp:Sr.leaps op with
      | false =>
       have HF:=Aa (show Sr.fits ⟨op,d,a,b',n⟩ ((code.length:Int)-1-k)=true by rw[HFIT.out,HT.out,hlp];rfl);clear hlp c0 c4;go_wp2;exact⟨⟨k+1,by omega,by go_num,fun j r hj hr=>by
        rcases Nat.lt_or_ge j k with h|h
        ·exact HALL.out j r h hr
        ·obtain rfl:j=k:=by omega
         rw[HRK.out] at hr
         injection hr with hr
         subst hr;exact HF.out,hb3⟩,by simp[intOf];omega⟩
      | true =>
       by_cases hN:0≤n∧n<(code.length:Int)-1-k
       ·have HF:=Aa (show Sr.fits ⟨op,d,a,b',n⟩ ((code.length:Int)-1-k)=true by rw[HFIT.out,HT.out,hlp,decide_eq_true hN];rfl);clear hlp;obtain⟨hN0,hN1⟩:=hN;go_wp2;exact⟨⟨k+1,by omega,by go_num,fun j r hj hr=>by
         rcases Nat.lt_or_ge j k with h|h
         ·exact HALL.out j r h hr
         ·obtain rfl:j=k:=by omega
          rw[HRK.out] at hr
          injection hr with hr
          subst hr;exact HF.out,hb3⟩,by simp[intOf];omega⟩
       ·have HF:=Aa (show Sr.fits ⟨op,d,a,b',n⟩ ((code.length:Int)-1-k)=false by rw[HFIT.out,HT.out,hlp,decide_eq_false hN];rfl);clear hlp;by_cases hN0:0≤n
        ·have hN1:(code.length:Int)-1-k≤n:=by omega
         clear hN;go_wp2;go_ret;exact HN.out _ hb3 HF.out
        ·clear hN;go_wp2;go_ret;exact HN.out _ hb3 HF.out
    ·have hgo:¬ (op==42)=((code.length:Int)-1-k==0):=by
      intro h;by_cases ho:op=42
      ·rw[ho] at h;have:=beq_iff_eq.1 h.symm;exact hm (.inl ⟨ho,by omega⟩)
      ·rw[beq_eq_false_iff_ne.2 ho] at h;have:=beq_eq_false_iff_ne.1 h.symm;exact hm (.inr ⟨ho,by omega⟩)
     have hfit:Sr.fits ⟨op,d,a,b',n⟩ ((code.length:Int)-1-k)=false:=by
      unfold Sr.fits;rw[HU.out];have:(decide (op=42)==decide ((code.length:Int)-1-k=0))=false:=by
       refine beq_eq_false_iff_ne.2 fun h=>hgo ?_
       have h':(op=42)↔((code.length:Int)-1-k=0):=by simpa using h
       rw[Bool.eq_iff_iff,beq_iff_eq,beq_iff_eq];exact h'
      simp only[this,Bool.and_false,Bool.false_and]
     have HF:=Aa hfit;clear hm hfit;go_wp2;go_ret;exact HN.out _ hba HF.out
  ·obtain rfl:k=code.length:=by omega
   obtain⟨r,hr⟩:∃ r,code[code.length-1]?=some r:=⟨_,List.getElem?_eq_getElem (by omega)⟩;have hfit:Sr.fitsAll code=true:=Sr.fitsAll_of fun i r hr=>HALL.out i r (List.getElem?_eq_some_iff.1 hr).1 hr
   have hright:Sr.right code=decide (0≤r.n∧r.n≤64):=by
    unfold Sr.right;rw[hfit,List.getLast?_eq_getElem?,hr,decide_eq_true (show 1≤code.length∧code.length≤80000 by omega)];simp
   have HRT:=Aa hright;clear hright hfit;obtain⟨b,off,rfl,hbB,hcells⟩:=hFr.2 (by omega);obtain⟨_,_,_,_,g4⟩:=Dh code _ r hr;have d4:=hcells _ _ g4;rw[←Nat.add_assoc] at d4;have HFR:=Aa hFr;clear hcells g4 hr hFr;obtain⟨op,d,a,b',n⟩:=r;simp only at d4;have hm:(code.length:Int)-1=((code.length-1:Nat):Int):=by omega
   have hml:code.length-1<code.length:=by omega
   generalize code.length-1=m at *;go_wp2
   all_goals
    go_ret;exact⟨Bm (by rw[HRT.out];simp;omega),hb⟩
section
variable {w w' : World} {sb : Nat} {L : SLay} {s : Sr.St}
theorem SrL.drew (h:SrL w sb L s):SrL w.drew sb L s:=h.keep fun _ _=>rfl
theorem SrL.alloc (h:SrL w sb L s) (o:Obj):SrL (w.alloc o) sb L s:=h.keep fun k hk=>Below.heap_alloc _ _ _ (h.lt hk)
theorem SrL.rk (h:SrL w sb L s) {i:Nat} (hi:i<64):K32 (s.regs.getD i 0):=by
 rw[List.getD_eq_getElem?_getD,List.getElem?_eq_getElem (by rw[h.ok.rl];exact hi)];exact h.ok.rk _ (List.getElem_mem _)
theorem SPost.from_ {e:Ending} {w1 w2:World} (h:Fr (SrS L sb) w w1) (k:SPost w1 sb L s e w2):SPost w sb L s e w2:=⟨k.1,k.2.1,h.trans k.2.2⟩
end
theorem Fy (w:World) (sb:Nat) (L:SLay) (s:Sr.St) (h:SrL w sb L s) (op n:Int) (d a:Nat) (b:Int) (hd:d<64) (ha:a<64) (fb f:Nat) (hfb:Blk w fb 117 #[.func (.func f) #[] #[]]) (v:Int) (hin:∀ args w,Sem.run Tryz.prog (callFunc f args) w=.ok (.enter f args) w)
  (hf:∀ w,Calls Tryz.prog f #[.int .i64 (s.regs.getD a 0)] w fun e w'=>e=.returned (.int .i64 v)∧w=w') :
  Calls Tryz.prog 224 #[.pointer (some ⟨sb,0,none⟩),Cu ⟨op,d,a,b,n⟩,.pointer (some ⟨fb,0,none⟩)] w (SPost w sb L { s with regs:=s.regs.set d (k32 v) }):=by
 unfold Cu;have H:=Aa h;have HF:=Aa hf;have HB:=Aa hfb;have hs1:=h.blk.lt;have ha64:(a:Int)<64:=by omega
 have hd64:(d:Int)<64:=by omega
 have hs2:=hfb.lt;have c1:=(h.alloc (.cells #[.int .i64 op,.int .i64 (d:Int),.int .i64 (a:Int),.int .i64 (b:Int),.int .i64 n] 50)).reg ha;have c0:=(h.alloc (.cells #[.int .i64 op,.int .i64 (d:Int),.int .i64 (a:Int),.int .i64 (b:Int),.int .i64 n] 50)).reg hd;have c2:=Ab ((hfb.alloc (.cells #[.int .i64 op,.int .i64 (d:Int),.int .i64 (a:Int),.int .i64 (b:Int),.int .i64 n] 50))) 0 rfl;clear h hf hfb;go_enter Tryz.func224,Tryz.ntmps224;go_wp2_with fail
 have r1:(w.alloc (.cells #[.int .i64 op,.int .i64 (d:Int),.int .i64 (a:Int),.int .i64 (b:Int),.int .i64 n] 50)).cell? ⟨w.heap.size,1,none⟩=some (.int .i64 (d:Int)):=(Blk.new w _ _).cell 1;have r2:(w.alloc (.cells #[.int .i64 op,.int .i64 (d:Int),.int .i64 (a:Int),.int .i64 (b:Int),.int .i64 n] 50)).cell? ⟨w.heap.size,2,none⟩=some (.int .i64 (a:Int)):=(Blk.new w _ _).cell 2;have HP:Hid (SPost w sb L { s with regs:=s.regs.set d (k32 v) } (.returned (.tuple #[])) ((w.alloc (.cells #[.int .i64 op,.int .i64 (d:Int),.int .i64 (a:Int),.int .i64 (b:Int),.int .i64 n] 50)).drew.setCell ⟨sb,d,none⟩ (.int .i64 (k32 v)))):=Aa ⟨rfl,(H.out.alloc _).drew.setReg hd (Db v),((Fr.refl _ w).alloc _).drew.setCell (.inl (.inl rfl)) _⟩;have fz:(w.alloc (.cells #[.int .i64 op,.int .i64 (d:Int),.int .i64 (a:Int),.int .i64 (b:Int),.int .i64 n] 50)).drew.frozen? ⟨sb,d,none⟩=false:=(H.out.alloc _).drew.blk.frozen d;generalize (w.alloc (.cells #[.int .i64 op,.int .i64 (d:Int),.int .i64 (a:Int),.int .i64 (b:Int),.int .i64 n] 50))=W at *;have hS:W.drew.cell? ⟨w.heap.size,1,none⟩=some (.int .i64 (d:Int))∧W.drew.cell? ⟨fb,0,none⟩=some (.func (.func f) #[] #[])∧W.drew.cell? ⟨w.heap.size,2,none⟩=some (.int .i64 (a:Int))∧W.drew.cell? ⟨sb,a,none⟩=some (.int .i64 (s.regs.getD a 0)):=⟨r1,c2,r2,c1⟩
 refine Aw (fun i=>!([11,12,16]:List Nat).contains i) (fun i=>([2,3,6,10]:List Nat).contains i) (fun i=>([11,12]:List Nat).contains i) [0,1,2,3,4,5,6,7,8,9,10,13,14,11,12,15,16] (fun wq:World=>wq.cell? ⟨w.heap.size,1,none⟩=some (.int .i64 (d:Int))∧wq.cell? ⟨fb,0,none⟩=some (.func (.func f) #[] #[])∧wq.cell? ⟨w.heap.size,2,none⟩=some (.int .i64 (a:Int))∧wq.cell? ⟨sb,a,none⟩=some (.int .i64 (s.regs.getD a 0))) (by kernel_rfl) (by kernel_rfl) (by kernel_rfl) (by kernel_rfl) ?_
 repeat (first|refine Ai ?_|refine An hS ?_)
 refine Aq fun K hK=>?_;go_simp
 refine(HF.out _).mono ?_;rintro e w5 ⟨rfl,rfl⟩;dsimp only;refine hK _ _ (fun _=>hS) ?_;clear hK K;refine Aq fun K hK=>?_;go_simp
 refine(Cf _ _).mono ?_;rintro e w5 ⟨rfl,rfl⟩;dsimp only;refine hK _ _ (fun _=>hS) ?_;clear hK K
 repeat (first|refine Ai ?_|refine An hS ?_)
 refine Aq fun K hK=>?_;go_simp
 refine Aj hK ?_;clear hK K;refine Ah ?_;go_wp2;go_end0;exact HP.out
theorem Cv (w:World) (sb:Nat) (L:SLay) (s:Sr.St) (h:SrL w sb L s) (op n:Int) (d a b:Nat) (hd:d<64) (ha:a<64) (hb:b<64) (fb f:Nat) (hfb:Blk w fb 74 #[.func (.func f) #[] #[]]) (v:Int) (hin:∀ args w,Sem.run Tryz.prog (callFunc f args) w=.ok (.enter f args) w)
  (hf:∀ w,Calls Tryz.prog f #[.int .i64 (s.regs.getD a 0),.int .i64 (s.regs.getD b 0)] w fun e w'=>e=.returned (.int .i64 v)∧w=w') :
  Calls Tryz.prog 225 #[.pointer (some ⟨sb,0,none⟩),Cu ⟨op,d,a,b,n⟩,.pointer (some ⟨fb,0,none⟩)] w (SPost w sb L { s with regs:=s.regs.set d (k32 v) }):=by
 unfold Cu;have H:=Aa h;have HF:=Aa hf;have HB:=Aa hfb;have hs1:=h.blk.lt;have ha64:(a:Int)<64:=by omega
 have hb64:(b:Int)<64:=by omega
 have hd64:(d:Int)<64:=by omega
 have hs2:=hfb.lt;have c1:=(h.alloc (.cells #[.int .i64 op,.int .i64 (d:Int),.int .i64 (a:Int),.int .i64 ((b:Nat):Int),.int .i64 n] 50)).reg ha;have c3:=(h.alloc (.cells #[.int .i64 op,.int .i64 (d:Int),.int .i64 (a:Int),.int .i64 ((b:Nat):Int),.int .i64 n] 50)).reg hb;have c0:=(h.alloc (.cells #[.int .i64 op,.int .i64 (d:Int),.int .i64 (a:Int),.int .i64 ((b:Nat):Int),.int .i64 n] 50)).reg hd;have c2:=Ab ((hfb.alloc (.cells #[.int .i64 op,.int .i64 (d:Int),.int .i64 (a:Int),.int .i64 ((b:Nat):Int),.int .i64 n] 50))) 0 rfl;clear h hf hfb;go_enter Tryz.func225,Tryz.ntmps225;go_wp2_with fail
 have r1:(w.alloc (.cells #[.int .i64 op,.int .i64 (d:Int),.int .i64 (a:Int),.int .i64 ((b:Nat):Int),.int .i64 n] 50)).cell? ⟨w.heap.size,1,none⟩=some (.int .i64 (d:Int)):=(Blk.new w _ _).cell 1;have r2:(w.alloc (.cells #[.int .i64 op,.int .i64 (d:Int),.int .i64 (a:Int),.int .i64 ((b:Nat):Int),.int .i64 n] 50)).cell? ⟨w.heap.size,2,none⟩=some (.int .i64 (a:Int)):=(Blk.new w _ _).cell 2;have r3:(w.alloc (.cells #[.int .i64 op,.int .i64 (d:Int),.int .i64 (a:Int),.int .i64 ((b:Nat):Int),.int .i64 n] 50)).cell? ⟨w.heap.size,3,none⟩=some (.int .i64 (b:Int)):=(Blk.new w _ _).cell 3;have HP:Hid (SPost w sb L { s with regs:=s.regs.set d (k32 v) } (.returned (.tuple #[])) ((w.alloc (.cells #[.int .i64 op,.int .i64 (d:Int),.int .i64 (a:Int),.int .i64 ((b:Nat):Int),.int .i64 n] 50)).drew.setCell ⟨sb,d,none⟩ (.int .i64 (k32 v)))):=Aa ⟨rfl,(H.out.alloc _).drew.setReg hd (Db v),((Fr.refl _ w).alloc _).drew.setCell (.inl (.inl rfl)) _⟩;have fz:(w.alloc (.cells #[.int .i64 op,.int .i64 (d:Int),.int .i64 (a:Int),.int .i64 ((b:Nat):Int),.int .i64 n] 50)).drew.frozen? ⟨sb,d,none⟩=false:=(H.out.alloc _).drew.blk.frozen d;generalize (w.alloc (.cells #[.int .i64 op,.int .i64 (d:Int),.int .i64 (a:Int),.int .i64 ((b:Nat):Int),.int .i64 n] 50))=W at *
 have hS:W.drew.cell? ⟨w.heap.size,1,none⟩=some (.int .i64 (d:Int))∧W.drew.cell? ⟨fb,0,none⟩=some (.func (.func f) #[] #[])∧W.drew.cell? ⟨w.heap.size,2,none⟩=some (.int .i64 (a:Int))∧W.drew.cell? ⟨sb,a,none⟩=some (.int .i64 (s.regs.getD a 0))∧W.drew.cell? ⟨w.heap.size,3,none⟩=some (.int .i64 (b:Int))∧W.drew.cell? ⟨sb,b,none⟩=some (.int .i64 (s.regs.getD b 0)):=⟨r1,c2,r2,c1,r3,c3⟩;refine Aw (fun i=>!([18,19,23]:List Nat).contains i) (fun i=>([2,3,6,10,13,17]:List Nat).contains i) (fun i=>([18,19]:List Nat).contains i) [0,1,2,3,4,5,6,7,8,9,10,11,12,13,14,15,16,17,20,21,18,19,22,23] (fun wq:World=>wq.cell? ⟨w.heap.size,1,none⟩=some (.int .i64 (d:Int))∧wq.cell? ⟨fb,0,none⟩=some (.func (.func f) #[] #[])∧wq.cell? ⟨w.heap.size,2,none⟩=some (.int .i64 (a:Int))∧wq.cell? ⟨sb,a,none⟩=some (.int .i64 (s.regs.getD a 0))∧wq.cell? ⟨w.heap.size,3,none⟩=some (.int .i64 (b:Int))∧wq.cell? ⟨sb,b,none⟩=some (.int .i64 (s.regs.getD b 0))) (by kernel_rfl) (by kernel_rfl) (by kernel_rfl) (by kernel_rfl) ?_
 repeat (first|refine Ai ?_|refine An hS ?_)
 refine Aq fun K hK=>?_;go_simp
 refine(HF.out _).mono ?_;rintro e w5 ⟨rfl,rfl⟩;dsimp only;refine hK _ _ (fun _=>hS) ?_;clear hK K;refine Aq fun K hK=>?_;go_simp
 refine(Cf _ _).mono ?_;rintro e w5 ⟨rfl,rfl⟩;dsimp only;refine hK _ _ (fun _=>hS) ?_;clear hK K
 repeat (first|refine Ai ?_|refine An hS ?_)
 refine Aq fun K hK=>?_;go_simp
 refine Aj hK ?_;clear hK K;refine Ah ?_;go_wp2;go_end0;exact HP.out
end Go.Proofs.YtnhebmgibiomnaaGreat
namespace Go.Proofs.YtnhebmgibiomnaaGreat
open Go.RowKit Mc
section
variable {w w' w1 : World} {sb : Nat} {L : SLay} {s : Sr.St}
theorem SrL.getR (h:SrL w sb L s) {i:Nat} (hi:i<64):∃ x,s.regs.getD i 0=x∧w.cell? ⟨sb,i,none⟩=some (.int .i64 x)∧K32 x:=⟨_,rfl,h.reg hi,h.rk hi⟩
theorem SPost.put (h:SrL w1 sb L s) (hf:Fr (SrS L sb) w w1) {d:Nat} (hd:d<64) {x:Int} (hx:K32 x):SPost w sb L { s with regs:=s.regs.set d x } (.returned (.tuple #[])) (w1.setCell ⟨sb,d,none⟩ (.int .i64 x)) :=
 ⟨rfl,h.setReg hd hx,hf.setCell (.inl (.inl rfl)) _⟩
theorem SPost.here (h:SrL w1 sb L s) (hf:Fr (SrS L sb) w w1):SPost w sb L s (.returned (.tuple #[])) w1:=⟨rfl,h,hf⟩
end
theorem at_k {l:List Int} {x:Int} (hk:∀ x∈l,K32 x):K32 (at_ l x):=by
 unfold at_;split
 ·rw[List.getD_eq_getElem?_getD,List.getElem?_eq_getElem (by omega)];exact hk _ (List.getElem_mem _)
 ·exact⟨by decide,by decide⟩
theorem Mp (w:World) (sb:Nat) (L:SLay) (s:Sr.St) (h:SrL w sb L s) (op n b:Int) (d a:Nat) (hd:d<64) (ha:a<64) (v:Value) (l:List Int) (hl:l.length≤1000000) (hv:w.ownsRow 0 3 1 v l.length (ints l)) (hk:∀ x∈l,K32 x) :
  Calls Tryz.prog 128 #[.pointer (some ⟨sb,0,none⟩),v,Cu ⟨op,d,a,b,n⟩] w (SPost w sb L { s with regs:=s.regs.set d (at_ l (s.regs.getD a 0)) }):=by
 unfold Cu;have H:=Aa h;have ha64:(a:Int)<64:=by omega
 have hd64:(d:Int)<64:=by omega
 have hs1:=h.blk.lt;obtain⟨x,hx,c1,hxk⟩:=h.getR ha;have HX:=Aa hx;rw[hx];obtain⟨A,c,rfl,hc1,hc2⟩:=Ae hv;have HK:=Aa (at_k (x:=x) hk);have HV:=Aa hv;have FIN:=Aa (show ∀ (y:Int),y=at_ l x→∀ W,SrL W sb L s→Fr (SrS L sb) w W→SPost w sb L { s with regs:=s.regs.set d (at_ l x) } (.returned (.tuple #[])) (W.setCell ⟨sb,d,none⟩ (.int .i64 y)) from fun y hy W h1 h2=>by
  subst hy;exact .put h1 h2 hd HK.out)
 clear h hx hv hk hc1 hc2 c1;by_cases hx:0≤x∧x<l.length
 ·obtain⟨i,rfl⟩:∃ i:Nat,x=i:=⟨x.toNat,by omega⟩;have hil:i<l.length:=by omega
  obtain⟨y,hy⟩:∃ y,l[i]?=some y:=⟨_,List.getElem?_eq_getElem hil⟩;have e:=Aa (Zce hy);obtain⟨g,c',hA,_,_,hg,hcell⟩:=Bb HV.out (by omega);have cy:=hcell i _ (Bf hy)
  injection hA with hA
  subst hA;clear hcell hx hy;go_enter Tryz.func128,Tryz.ntmps128;go_wp2_with fail
  have r1:(w.alloc (.cells #[.int .i64 op,.int .i64 (d:Int),.int .i64 (a:Int),.int .i64 (b:Int),.int .i64 n] 50)).cell? ⟨w.heap.size,1,none⟩=some (.int .i64 (d:Int)):=(Blk.new w _ _).cell 1;have r2:(w.alloc (.cells #[.int .i64 op,.int .i64 (d:Int),.int .i64 (a:Int),.int .i64 (b:Int),.int .i64 n] 50)).cell? ⟨w.heap.size,2,none⟩=some (.int .i64 (a:Int)):=(Blk.new w _ _).cell 2;have r3:(w.alloc (.cells #[.int .i64 op,.int .i64 (d:Int),.int .i64 (a:Int),.int .i64 (b:Int),.int .i64 n] 50)).cell? ⟨w.heap.size,3,none⟩=some (.int .i64 (b:Int)):=(Blk.new w _ _).cell 3;have H1:=Aa (H.out.alloc (.cells #[.int .i64 op,.int .i64 (d:Int),.int .i64 (a:Int),.int .i64 (b:Int),.int .i64 n] 50));have F1:=Aa ((Fr.refl (SrS L sb) w).alloc (.cells #[.int .i64 op,.int .i64 (d:Int),.int .i64 (a:Int),.int .i64 (b:Int),.int .i64 n] 50));have hz:w.heap.size<(w.alloc (.cells #[.int .i64 op,.int .i64 (d:Int),.int .i64 (a:Int),.int .i64 (b:Int),.int .i64 n] 50)).heap.size:=by simp
  have cy:(w.alloc (.cells #[.int .i64 op,.int .i64 (d:Int),.int .i64 (a:Int),.int .i64 (b:Int),.int .i64 n] 50)).cell? ⟨g,i,none⟩=some (.int .i64 y):=by simpa [go_sem,hg] using cy
  generalize (w.alloc (.cells #[.int .i64 op,.int .i64 (d:Int),.int .i64 (a:Int),.int .i64 (b:Int),.int .i64 n] 50))=W at *;have c1:=H1.out.reg ha;rw[HX.out] at c1;have hS:W.drew.cell? ⟨w.heap.size,2,none⟩=some (.int .i64 (a:Int))∧W.drew.cell? ⟨sb,a,none⟩=some (.int .i64 (i:Int)):=⟨r2,c1⟩;refine Bl [] [2,6] [] 9 (fun wq:World=>wq.cell? ⟨w.heap.size,2,none⟩=some (.int .i64 (a:Int))∧wq.cell? ⟨sb,a,none⟩=some (.int .i64 (i:Int))) ?_
  repeat (first|refine Ai ?_|refine An hS ?_)
  refine Ah ?_;clear c1;have H1:=Aa H1.out.drew;have F1:=Aa F1.out.drew
  replace r1:W.drew.cell? ⟨w.heap.size,1,none⟩=some (.int .i64 (d:Int)):=r1
  replace r2:W.drew.cell? ⟨w.heap.size,2,none⟩=some (.int .i64 (a:Int)):=r2
  replace r3:W.drew.cell? ⟨w.heap.size,3,none⟩=some (.int .i64 (b:Int)):=r3
  replace hz:w.heap.size<W.drew.heap.size:=hz
  replace cy:W.drew.cell? ⟨g,i,none⟩=some (.int .i64 y):=cy
  clear hS;generalize W.drew=W at *;go_wp2_with fail
  have fz:=H1.out.drew.blk.frozen d;have c0:=H1.out.drew.reg hd;have hS:W.drew.cell? ⟨w.heap.size,1,none⟩=some (.int .i64 (d:Int)):=r1;refine Bl [7] [2] [] 8 (fun wq:World=>wq.cell? ⟨w.heap.size,1,none⟩=some (.int .i64 (d:Int))) ?_
  repeat (first|refine Ai ?_|refine An hS ?_)
  refine Aq fun K hK=>?_;go_simp
  refine Aj hK ?_;clear hK K;refine Ah ?_;go_wp2;go_end0;exact FIN.out _ e.out.symm _ H1.out.drew F1.out.drew
 ·have e:=Aa (at_no hx);by_cases h0:0≤x
  ·have h1:¬ x<l.length:=fun e=>hx ⟨h0,e⟩
   clear hx;go_enter Tryz.func128,Tryz.ntmps128;go_wp2_with fail
   have r1:(w.alloc (.cells #[.int .i64 op,.int .i64 (d:Int),.int .i64 (a:Int),.int .i64 (b:Int),.int .i64 n] 50)).cell? ⟨w.heap.size,1,none⟩=some (.int .i64 (d:Int)):=(Blk.new w _ _).cell 1;have r2:(w.alloc (.cells #[.int .i64 op,.int .i64 (d:Int),.int .i64 (a:Int),.int .i64 (b:Int),.int .i64 n] 50)).cell? ⟨w.heap.size,2,none⟩=some (.int .i64 (a:Int)):=(Blk.new w _ _).cell 2;have r3:(w.alloc (.cells #[.int .i64 op,.int .i64 (d:Int),.int .i64 (a:Int),.int .i64 (b:Int),.int .i64 n] 50)).cell? ⟨w.heap.size,3,none⟩=some (.int .i64 (b:Int)):=(Blk.new w _ _).cell 3;have H1:=Aa (H.out.alloc (.cells #[.int .i64 op,.int .i64 (d:Int),.int .i64 (a:Int),.int .i64 (b:Int),.int .i64 n] 50));have F1:=Aa ((Fr.refl (SrS L sb) w).alloc (.cells #[.int .i64 op,.int .i64 (d:Int),.int .i64 (a:Int),.int .i64 (b:Int),.int .i64 n] 50));have hz:w.heap.size<(w.alloc (.cells #[.int .i64 op,.int .i64 (d:Int),.int .i64 (a:Int),.int .i64 (b:Int),.int .i64 n] 50)).heap.size:=by simp
   skip
   generalize (w.alloc (.cells #[.int .i64 op,.int .i64 (d:Int),.int .i64 (a:Int),.int .i64 (b:Int),.int .i64 n] 50))=W at *;have c1:=H1.out.reg ha;rw[HX.out] at c1;have hS:W.drew.cell? ⟨w.heap.size,2,none⟩=some (.int .i64 (a:Int))∧W.drew.cell? ⟨sb,a,none⟩=some (.int .i64 x):=⟨r2,c1⟩;refine Bl [] [2,6] [] 9 (fun wq:World=>wq.cell? ⟨w.heap.size,2,none⟩=some (.int .i64 (a:Int))∧wq.cell? ⟨sb,a,none⟩=some (.int .i64 x)) ?_
   repeat (first|refine Ai ?_|refine An hS ?_)
   refine Ah ?_;clear c1;have H1:=Aa H1.out.drew;have F1:=Aa F1.out.drew
   replace r1:W.drew.cell? ⟨w.heap.size,1,none⟩=some (.int .i64 (d:Int)):=r1
   replace r2:W.drew.cell? ⟨w.heap.size,2,none⟩=some (.int .i64 (a:Int)):=r2
   replace r3:W.drew.cell? ⟨w.heap.size,3,none⟩=some (.int .i64 (b:Int)):=r3
   replace hz:w.heap.size<W.drew.heap.size:=hz
   skip
   clear hS;generalize W.drew=W at *;go_wp2_with fail
   have fz:=H1.out.drew.blk.frozen d;have c0:=H1.out.drew.reg hd;have hS:W.drew.cell? ⟨w.heap.size,1,none⟩=some (.int .i64 (d:Int)):=r1;refine Bl [7] [2] [] 8 (fun wq:World=>wq.cell? ⟨w.heap.size,1,none⟩=some (.int .i64 (d:Int))) ?_
   repeat (first|refine Ai ?_|refine An hS ?_)
   refine Aq fun K hK=>?_;go_simp
   refine Aj hK ?_;clear hK K;refine Ah ?_;go_wp2;go_end0;exact FIN.out _ e.out.symm _ H1.out.drew F1.out.drew
  ·clear hx;go_enter Tryz.func128,Tryz.ntmps128;go_wp2_with fail
   have r1:(w.alloc (.cells #[.int .i64 op,.int .i64 (d:Int),.int .i64 (a:Int),.int .i64 (b:Int),.int .i64 n] 50)).cell? ⟨w.heap.size,1,none⟩=some (.int .i64 (d:Int)):=(Blk.new w _ _).cell 1;have r2:(w.alloc (.cells #[.int .i64 op,.int .i64 (d:Int),.int .i64 (a:Int),.int .i64 (b:Int),.int .i64 n] 50)).cell? ⟨w.heap.size,2,none⟩=some (.int .i64 (a:Int)):=(Blk.new w _ _).cell 2;have r3:(w.alloc (.cells #[.int .i64 op,.int .i64 (d:Int),.int .i64 (a:Int),.int .i64 (b:Int),.int .i64 n] 50)).cell? ⟨w.heap.size,3,none⟩=some (.int .i64 (b:Int)):=(Blk.new w _ _).cell 3;have H1:=Aa (H.out.alloc (.cells #[.int .i64 op,.int .i64 (d:Int),.int .i64 (a:Int),.int .i64 (b:Int),.int .i64 n] 50));have F1:=Aa ((Fr.refl (SrS L sb) w).alloc (.cells #[.int .i64 op,.int .i64 (d:Int),.int .i64 (a:Int),.int .i64 (b:Int),.int .i64 n] 50));have hz:w.heap.size<(w.alloc (.cells #[.int .i64 op,.int .i64 (d:Int),.int .i64 (a:Int),.int .i64 (b:Int),.int .i64 n] 50)).heap.size:=by simp
   skip
   generalize (w.alloc (.cells #[.int .i64 op,.int .i64 (d:Int),.int .i64 (a:Int),.int .i64 (b:Int),.int .i64 n] 50))=W at *;have c1:=H1.out.reg ha;rw[HX.out] at c1;have hS:W.drew.cell? ⟨w.heap.size,2,none⟩=some (.int .i64 (a:Int))∧W.drew.cell? ⟨sb,a,none⟩=some (.int .i64 x):=⟨r2,c1⟩;refine Bl [] [2,6] [] 9 (fun wq:World=>wq.cell? ⟨w.heap.size,2,none⟩=some (.int .i64 (a:Int))∧wq.cell? ⟨sb,a,none⟩=some (.int .i64 x)) ?_
   repeat (first|refine Ai ?_|refine An hS ?_)
   refine Ah ?_;clear c1;have H1:=Aa H1.out.drew;have F1:=Aa F1.out.drew
   replace r1:W.drew.cell? ⟨w.heap.size,1,none⟩=some (.int .i64 (d:Int)):=r1
   replace r2:W.drew.cell? ⟨w.heap.size,2,none⟩=some (.int .i64 (a:Int)):=r2
   replace r3:W.drew.cell? ⟨w.heap.size,3,none⟩=some (.int .i64 (b:Int)):=r3
   replace hz:w.heap.size<W.drew.heap.size:=hz
   skip
   clear hS;generalize W.drew=W at *;go_wp2_with fail
   have fz:=H1.out.drew.blk.frozen d;have c0:=H1.out.drew.reg hd;have hS:W.drew.cell? ⟨w.heap.size,1,none⟩=some (.int .i64 (d:Int)):=r1;refine Bl [7] [2] [] 8 (fun wq:World=>wq.cell? ⟨w.heap.size,1,none⟩=some (.int .i64 (d:Int))) ?_
   repeat (first|refine Ai ?_|refine An hS ?_)
   refine Aq fun K hK=>?_;go_simp
   refine Aj hK ?_;clear hK K;refine Ah ?_;go_wp2;go_end0;exact FIN.out _ e.out.symm _ H1.out.drew F1.out.drew
end Go.Proofs.YtnhebmgibiomnaaGreat

/- Parts of the proof, joined: SrO SrP SrQ SrR. -/
import Derived.Deep.CutBlock
import Derived.ScopeJumps
import Derived.WalkMore
import Derived.Test.YtnhebmgibiomnaaGreatPb18
set_option linter.unusedVariables false
set_option linter.unusedSimpArgs false
set_option maxRecDepth 100000
set_option maxHeartbeats 8000000
namespace Go.Proofs.YtnhebmgibiomnaaGreat
open Go.RowKit Mc
def SrB (B:Nat) (L:SLay) (sb:Nat):Prop:=∀ k,(k=sb∨L.og.ownBlock=some k∨L.cu.ownBlock=some k∨L.tq.ownBlock=some k∨L.en.ownBlock=some k∨L.co.ownBlock=some k∨L.cv.ownBlock=some k∨L.st.ownBlock=some k)→B≤k
theorem SrL.tour {w w1:World} {sb:Nat} {L:SLay} {s:Sr.St} (h:SrL w sb L s) {v':Value} {c:Nat×Nat} (hc:c.1≤c.2∧c.2<s.m.cur.length) (hl:s.m.cont.length<1000000)
  (ho:w1.ownsRow 0 157 2 v' (s.m.cont.length+1) (cts s.m.cont++[.int .i64 c.1,.int .i64 c.2])) (hg:w.grownBy w1 L.co.ownBlock) :
  Blk w1 sb 104 (Co L s)∧SrL (w1.setCell ⟨sb,68,none⟩ v') sb { L with co:=v' } { s with m := { s.m with cont:=s.m.cont++[c] } } := by
 have hb:Blk w1 sb 104 (Co L s):=h.blk.grown hg fun e=>by
  obtain⟨_,_,_,hb'⟩:=Ag h.co e.symm;exact h.blk.ne_ hb' (by decide) rfl
 refine⟨hb,?_⟩;have ap:∀ {t:TypeId} {size n:Nat} {v:Value} {xs:List Value},w.ownsRow 0 t size v n xs→t≠157→t≠104→(w1.setCell ⟨sb,68,none⟩ v').ownsRow 0 t size v n xs:=fun hv h1 h2 =>
  Be (Fk hv hg (Fc hv h.co h1)) hb (fun e=>h2 e.symm) 68 v'
 refine⟨?_,ap h.og (by decide) (by decide),ap h.cu (by decide) (by decide),ap h.tq (by decide) (by decide),ap h.en (by decide) (by decide),?_,ap h.cv (by decide) (by decide),ap h.st (by decide) (by decide),h.ap_cu_og,h.ap_tq_en,h.ap_tq_cv,h.ap_tq_st,h.ap_en_cv,h.ap_en_st,h.ap_cv_st,⟨h.ok.rl,h.ok.rk,h.ok.m.cont_ (fun y hy=>?_) (by simp;omega)⟩⟩
 ·rw[←Hh (L:=L) (L' := { L with co:=v' }) (s:=s) (s' := { s with m := { s.m with cont:=s.m.cont++[c] } }) h.ok.rl rfl 4 v' rfl];exact hb.set_ 68 v'
 ·have:=Be ho hb (by decide) 68 v'
  simpa [cts] using this
 ·rcases List.mem_append.1 hy with hy|hy
  ·exact h.ok.m.cont y hy
  ·simp only[List.mem_singleton] at hy;subst hy;exact hc
theorem ZnAt.mor {w:World} {B B':Nat} {z:Zn} {oA uA tA eA:Option Addr} (h:ZnAt w B z oA uA tA eA) (hB:B≤B'):ZnAt w B' z oA uA tA eA:=⟨h.org.more hB,h.cur.more hB,h.touch.more hB,h.ends.more hB⟩
theorem PgAt.cvt_ {w:World} {B:Nat} {cvt:List Int} {cA:Option Addr} (h:Reads w B 1 cA cvt.length (ints cvt)):PgAt w B ⟨[],[],cvt,0⟩ none none cA:=⟨⟨[],Reads.none_,fun i c hc=>by simp at hc⟩,Reads.none_,h⟩
theorem Tq:(Tryz.prog.info? 157).map (fun i=>(i.zero,i.size,i.bytes))=some (some (.agg #[.int .i64 0,.int .i64 0]),2,16):=by kernel_rfl
def s0 (cvt:List Int) (size:Int) (z:Zn) (cs:List (Nat×Nat)):Sr.St := { Sr.begin_ cvt size z with m := { (Sr.begin_ cvt size z).m with cont:=cs } }
def BInv (w:World) (sb:Nat) (cvt:List Int) (size:Int) (z:Zn) (eA:Option Addr) (l i:Value) (wr:World):Prop :=
 ∃ (j:Nat) (la:Int) (L:SLay) (cs:List (Nat×Nat)),j≤z.ends.length∧i=.int .i64 j∧l=.int .i64 la∧-1≤la∧la≤z.cur.length∧SrL wr sb L (s0 cvt size z cs)∧SrB w.heap.size L sb∧Below w.heap.size w wr∧Reads wr w.heap.size 1 eA z.ends.length (ints z.ends)∧cs++Mc.conts z.cur.length la (z.ends.drop j)=Mc.conts z.cur.length (-1) z.ends∧cs.length≤j
def Yx (w:World) (cvt:List Int) (size:Int) (z:Zn) (e:Ending) (w':World):Prop:=∃ sb L,e=.returned (.pointer (some ⟨sb,0,none⟩))∧SrL w' sb L (Sr.begin_ cvt size z)∧SrB w.heap.size L sb∧Below w.heap.size w w'
theorem Yo (w:World) (cvt:List Int) (size:Int) (z:Zn) (hcv:cvt.length≤1000000) (hz:ZnOk z) (fA mA cA oA tA eA uA:Option Addr) (fn fc mn mc cc oc tc ec uc:Nat) (hcr:Reads w w.heap.size 1 cA cvt.length (ints cvt)) (hza:ZnAt w w.heap.size z oA uA tA eA) :
  Calls Tryz.prog 40 #[.agg #[.slice fA fn fc,.slice mA mn mc,.slice cA cvt.length cc,.int .i64 size],.agg #[.slice oA z.org.length oc,.slice uA z.cur.length uc,.slice tA z.touch.length tc,.slice eA z.ends.length ec]] w (Yx w cvt size z):=by
 obtain⟨X,hX⟩:∃ X,X=(w.alloc (.cells #[.slice fA fn fc,.slice mA mn mc,.slice cA cvt.length cc,.int .i64 size] 26)).alloc (.cells #[.slice oA z.org.length oc,.slice uA z.cur.length uc,.slice tA z.touch.length tc,.slice eA z.ends.length ec] 30):=⟨_,rfl⟩;have hXz:X.heap.size=w.heap.size+1+1:=by rw[hX];simp
 have hXG:Grow w X:=by rw[hX];exact((Fr.refl _ w).alloc _).alloc _
 have hbp:Blk X w.heap.size 26 #[.slice fA fn fc,.slice mA mn mc,.slice cA cvt.length cc,.int .i64 size]:=by rw[hX];exact(Blk.new _ _ _).alloc _
 have hbz:Blk X (w.heap.size+1) 30 #[.slice oA z.org.length oc,.slice uA z.cur.length uc,.slice tA z.touch.length tc,.slice eA z.ends.length ec]:=by rw[hX];exact Blk.new_at _ _ _ (by simp)
 have hcX:=hcr.keep (w':=X) fun q hq=>hXG.cell hq (fun x=>x)
 have hzX:=hza.keep (W':=X) fun q hq=>hXG.cell hq (fun x=>x)
 have hnew:=Wj X ⟨[],[],cvt,0⟩ z ⟨by simp,by simp,by simp,by simpa using hcv⟩ hz none none cA oA tA eA uA 0 0 cc oc tc ec uc (PgAt.cvt_ (hcX.more hXG.size)) (hzX.mor hXG.size);have HNEW:=Aa hnew;have HXG:=Aa hXG;have HX:=Aa hX;have HZK:=Aa hz;have HCX:=Aa hcX;have HZX:=Aa hzX;have HBP:=Aa hbp;have HBZ:=Aa hbz;have p2:=Ab hbp 2 rfl;have q0:=Ab hbz 0 rfl;have q1:=Ab hbz 1 rfl;have q2:=Ab hbz 2 rfl;have q3:=Ab hbz 3 rfl;clear hX hnew hcr hza hXG hbp hbz hcX hzX hz;go_enter Tryz.func40,Tryz.ntmps40;go_upto_region 1 with fail
 rw[←HX.out];go_wp2_with fail
 refine HNEW.out.mono ?_;rintro e w1 ⟨mb,O1,L1,rfl,hm1,hO1,hb1⟩;have HC:=Aa (Qt w1 mb O1 L1 _ hm1);have HOK:=Aa hm1.ok;have HB1:=Aa hb1;clear hm1 hO1 hb1 HNEW p2 q0 q1 q2 q3;go_wp2_with fail
 refine HC.out.mono ?_;rintro e w2 ⟨og,cu,tq,en,cv,st,sk,rfl,hra,hb2,hap⟩;clear HC;have HRA:=Aa hra;have HAP:=Aa hap;have HRW:=Aa HB1.out.size;have HB2:=Aa ((HB1.out).trans (hb2.mono HB1.out.size));obtain⟨A1,c1,hf1,_⟩:=Ae hra.og;obtain⟨A2,c2,hf2,_⟩:=Ae hra.cu;obtain⟨A3,c3,hf3,_⟩:=Ae hra.to;obtain⟨A4,c4,hf4,_⟩:=Ae hra.en;obtain⟨A5,c5,hf5,_⟩:=Ae hra.cv;obtain⟨A6,c6,hf6,_⟩:=Ae hra.st;obtain⟨A7,c7,hf7,_⟩:=Ae hra.sk;subst hf1 hf2 hf3 hf4 hf5 hf6 hf7;clear hra hb2 hap HB1;generalize hsb:begin_ ⟨[],[],cvt,0⟩ z=sB at *;have HSB:=Aa hsb;clear hsb;have hz2:X.heap.size≤w2.heap.size:=HB2.out.size;have hra:=((HRA.out.grow ((Fr.refl _ _).alloc (.cells #[.slice A1 sB.org.length c1,.slice A2 sB.cur.length c2,.slice A3 sB.touch.length c3,.slice A4 sB.ends.length c4,.slice A5 sB.cvt.length c5,.slice A6 32 c6,.slice A7 sB.stack.length c7,.int .i64 sB.steps,.int .i64 sB.peak,.int .i64 sB.err] 39))).mono HRW.out);have hbl:=HB2.out.alloc hz2 (.cells #[.slice A1 sB.org.length c1,.slice A2 sB.cur.length c2,.slice A3 sB.touch.length c3,.slice A4 sB.ends.length c4,.slice A5 sB.cvt.length c5,.slice A6 32 c6,.slice A7 sB.stack.length c7,.int .i64 sB.steps,.int .i64 sB.peak,.int .i64 sB.err] 39);have hbk:=Blk.new w2 39 #[.slice A1 sB.org.length c1,.slice A2 sB.cur.length c2,.slice A3 sB.touch.length c3,.slice A4 sB.ends.length c4,.slice A5 sB.cvt.length c5,.slice A6 32 c6,.slice A7 sB.stack.length c7,.int .i64 sB.steps,.int .i64 sB.peak,.int .i64 sB.err]
 have hWz:X.heap.size≤(w2.alloc (.cells #[.slice A1 sB.org.length c1,.slice A2 sB.cur.length c2,.slice A3 sB.touch.length c3,.slice A4 sB.ends.length c4,.slice A5 sB.cvt.length c5,.slice A6 32 c6,.slice A7 sB.stack.length c7,.int .i64 sB.steps,.int .i64 sB.peak,.int .i64 sB.err] 39)).heap.size:=by simp;omega
 have HRA:=Aa hra;have HBL:=Aa hbl;have k0:=Ab hbk 0 rfl;have k1:=Ab hbk 1 rfl;have k2:=Ab hbk 2 rfl;have k3:=Ab hbk 3 rfl;have k4:=Ab hbk 4 rfl;have k5:=Ab hbk 5 rfl;have hp3:=Ab ((HBP.out.below hbl HBP.out.lt)) 3 rfl;clear hra hbl hbk;go_wp2_with fail
 generalize (w2.alloc (.cells #[.slice A1 sB.org.length c1,.slice A2 sB.cur.length c2,.slice A3 sB.touch.length c3,.slice A4 sB.ends.length c4,.slice A5 sB.cvt.length c5,.slice A6 32 c6,.slice A7 sB.stack.length c7,.int .i64 sB.steps,.int .i64 sB.peak,.int .i64 sB.err] 39))=W at *;have hS:W.drew.cell? ⟨w2.heap.size,0,none⟩=some (.slice A1 sB.org.length c1)∧W.drew.cell? ⟨w2.heap.size,1,none⟩=some (.slice A2 sB.cur.length c2)∧W.drew.cell? ⟨w2.heap.size,2,none⟩=some (.slice A3 sB.touch.length c3)∧W.drew.cell? ⟨w2.heap.size,3,none⟩=some (.slice A4 sB.ends.length c4)∧W.drew.cell? ⟨w2.heap.size,4,none⟩=some (.slice A5 sB.cvt.length c5)∧W.drew.cell? ⟨w2.heap.size,5,none⟩=some (.slice A6 32 c6)∧W.drew.cell? ⟨w.heap.size,3,none⟩=some (.int .i64 size):=⟨k0,k1,k2,k3,k4,k5,hp3⟩;refine Bl [8,10] [1,3,5,7] [8] 12 (fun wq:World=>wq.cell? ⟨w2.heap.size,0,none⟩=some (.slice A1 sB.org.length c1)∧wq.cell? ⟨w2.heap.size,1,none⟩=some (.slice A2 sB.cur.length c2)∧wq.cell? ⟨w2.heap.size,2,none⟩=some (.slice A3 sB.touch.length c3)∧wq.cell? ⟨w2.heap.size,3,none⟩=some (.slice A4 sB.ends.length c4)∧wq.cell? ⟨w2.heap.size,4,none⟩=some (.slice A5 sB.cvt.length c5)∧wq.cell? ⟨w2.heap.size,5,none⟩=some (.slice A6 32 c6)∧wq.cell? ⟨w.heap.size,3,none⟩=some (.int .i64 size)) ?_
 iterate 8 (first|refine Ai ?_|refine An hS ?_)
 refine Aq fun K hK=>?_;go_simp
 refine(Cf _ _).mono ?_;rintro e w5 ⟨rfl,rfl⟩;dsimp only;refine hK _ _ (fun _=>hS) ?_;clear hK K
 iterate 1 (first|refine Ai ?_|refine An hS ?_)
 refine Aq fun K hK=>?_;go_simp
 refine Aj hK ?_;clear hK K
 iterate 1 (first|refine Ai ?_|refine An hS ?_)
 refine Ah ?_;clear hS k0 k1 k2 k3 k4 k5 hp3;have HS:Hid (SrL (W.alloc (.cells ((((((((Tryz.zeroCells104.setIfInBounds 64 (.slice A1 sB.org.length c1)).setIfInBounds 65 (.slice A2 sB.cur.length c2)).setIfInBounds 66 (.slice A3 sB.touch.length c3)).setIfInBounds 67 (.slice A4 sB.ends.length c4)).setIfInBounds 69 (.slice A5 sB.cvt.length c5)).setIfInBounds 70 (.slice A6 32 c6)).setIfInBounds 71 (.int .i64 (k32 size))).setIfInBounds 74 (.int .i64 1)) 104)).drew W.heap.size ⟨.slice A1 sB.org.length c1,.slice A2 sB.cur.length c2,.slice A3 sB.touch.length c3,.slice A4 sB.ends.length c4,.slice none 0 0,.slice A5 sB.cvt.length c5,.slice A6 32 c6⟩ (s0 cvt size z [])):=Aa (by
  have es:s0 cvt size z []=⟨List.replicate 64 0,{ sB with size:=k32 size,look:=0,move:=0,mode:=1,cont:=[] },0,0⟩:=by
   rw[←HSB.out];rfl
  rw[es];have gr:Grow W (W.alloc (.cells ((((((((Tryz.zeroCells104.setIfInBounds 64 (.slice A1 sB.org.length c1)).setIfInBounds 65 (.slice A2 sB.cur.length c2)).setIfInBounds 66 (.slice A3 sB.touch.length c3)).setIfInBounds 67 (.slice A4 sB.ends.length c4)).setIfInBounds 69 (.slice A5 sB.cvt.length c5)).setIfInBounds 70 (.slice A6 32 c6)).setIfInBounds 71 (.int .i64 (k32 size))).setIfInBounds 74 (.int .i64 1)) 104)).drew:=((Fr.refl _ _).alloc _).drew;have hap:=HAP.out;have hok:=HOK.out;refine⟨?_,Bj (Bc HRA.out.og gr) (Nat.zero_le _),Bj (Bc HRA.out.cu gr) (Nat.zero_le _),Bj (Bc HRA.out.to gr) (Nat.zero_le _),Bj (Bc HRA.out.en gr) (Nat.zero_le _),Di _ _ _ _,Bj (Bc HRA.out.cv gr) (Nat.zero_le _),?_,hap.p1.symm,hap.p2,hap.p3,hap.p4,hap.p6,hap.p7,hap.p9,⟨rfl,fun x hx=>?_,{ hok with size:=Db _,mode:=(show (0:Int)≤1∧(1:Int)≤5 by decide),look:=(show (0:Int)≤0∧(0:Int)≤1 by decide),move:=(show (0:Int)≤0∧(0:Int)≤1 by decide),cont:=fun c hc=>by simp at hc,contl:=by simp }⟩⟩
  ·have hc:((((((((Tryz.zeroCells104.setIfInBounds 64 (.slice A1 sB.org.length c1)).setIfInBounds 65 (.slice A2 sB.cur.length c2)).setIfInBounds 66 (.slice A3 sB.touch.length c3)).setIfInBounds 67 (.slice A4 sB.ends.length c4)).setIfInBounds 69 (.slice A5 sB.cvt.length c5)).setIfInBounds 70 (.slice A6 32 c6)).setIfInBounds 71 (.int .i64 (k32 size))).setIfInBounds 74 (.int .i64 1))=Co ⟨.slice A1 sB.org.length c1,.slice A2 sB.cur.length c2,.slice A3 sB.touch.length c3,.slice A4 sB.ends.length c4,.slice none 0 0,.slice A5 sB.cvt.length c5,.slice A6 32 c6⟩ ⟨List.replicate 64 0,{ sB with size:=k32 size,look:=0,move:=0,mode:=1,cont:=[] },0,0⟩:=rfl;rw[hc];exact(Blk.new W 104 _).drew
  ·show World.ownsRow _ 0 3 1 (.slice A6 32 c6) sB.store.length (ints sB.store)
   rw[hok.stl];exact Bj (Bc HRA.out.st gr) (Nat.zero_le _)
  ·have:x∈List.replicate 64 (0:Int):=hx;rw[List.eq_of_mem_replicate this];exact⟨by decide,by decide⟩)
 have HSRB:Hid (SrB w.heap.size ⟨.slice A1 sB.org.length c1,.slice A2 sB.cur.length c2,.slice A3 sB.touch.length c3,.slice A4 sB.ends.length c4,.slice none 0 0,.slice A5 sB.cvt.length c5,.slice A6 32 c6⟩ W.heap.size):=Aa (fun k hk=>by
  have hx:=HXG.out.size;rcases hk with e|e|e|e|e|e|e|e
  ·omega
  ·have:=(Ag HRA.out.og e).1;omega
  ·have:=(Ag HRA.out.cu e).1;omega
  ·have:=(Ag HRA.out.to e).1;omega
  ·have:=(Ag HRA.out.en e).1;omega
  ·simp[Value.ownBlock] at e
  ·have:=(Ag HRA.out.cv e).1;omega
  ·have:=(Ag HRA.out.st e).1;omega)
 have hBL2:Below w.heap.size w (W.alloc (.cells ((((((((Tryz.zeroCells104.setIfInBounds 64 (.slice A1 sB.org.length c1)).setIfInBounds 65 (.slice A2 sB.cur.length c2)).setIfInBounds 66 (.slice A3 sB.touch.length c3)).setIfInBounds 67 (.slice A4 sB.ends.length c4)).setIfInBounds 69 (.slice A5 sB.cvt.length c5)).setIfInBounds 70 (.slice A6 32 c6)).setIfInBounds 71 (.int .i64 (k32 size))).setIfInBounds 74 (.int .i64 1)) 104)).drew:=(((Grow.below HXG.out Ad).trans (HBL.out.mono (by omega))).alloc (by omega) _).drew;have HBL2:=Aa hBL2;have HREAD:=Aa ((HZX.out.ends).keep (w':=(W.alloc (.cells ((((((((Tryz.zeroCells104.setIfInBounds 64 (.slice A1 sB.org.length c1)).setIfInBounds 65 (.slice A2 sB.cur.length c2)).setIfInBounds 66 (.slice A3 sB.touch.length c3)).setIfInBounds 67 (.slice A4 sB.ends.length c4)).setIfInBounds 69 (.slice A5 sB.cvt.length c5)).setIfInBounds 70 (.slice A6 32 c6)).setIfInBounds 71 (.int .i64 (k32 size))).setIfInBounds 74 (.int .i64 1)) 104)).drew) fun q hq=>(hBL2.cell hq).trans (HXG.out.cell hq (fun x=>x)).symm);have y3:=Ab (((HBZ.out.below HBL.out HBZ.out.lt).alloc (.cells ((((((((Tryz.zeroCells104.setIfInBounds 64 (.slice A1 sB.org.length c1)).setIfInBounds 65 (.slice A2 sB.cur.length c2)).setIfInBounds 66 (.slice A3 sB.touch.length c3)).setIfInBounds 67 (.slice A4 sB.ends.length c4)).setIfInBounds 69 (.slice A5 sB.cvt.length c5)).setIfInBounds 70 (.slice A6 32 c6)).setIfInBounds 71 (.int .i64 (k32 size))).setIfInBounds 74 (.int .i64 1)) 104)).drew) 3 rfl
 have yl:w.heap.size+1<(W.alloc (.cells ((((((((Tryz.zeroCells104.setIfInBounds 64 (.slice A1 sB.org.length c1)).setIfInBounds 65 (.slice A2 sB.cur.length c2)).setIfInBounds 66 (.slice A3 sB.touch.length c3)).setIfInBounds 67 (.slice A4 sB.ends.length c4)).setIfInBounds 69 (.slice A5 sB.cvt.length c5)).setIfInBounds 70 (.slice A6 32 c6)).setIfInBounds 71 (.int .i64 (k32 size))).setIfInBounds 74 (.int .i64 1)) 104)).drew.heap.size:=by simp;omega
 clear hBL2;generalize (W.alloc (.cells ((((((((Tryz.zeroCells104.setIfInBounds 64 (.slice A1 sB.org.length c1)).setIfInBounds 65 (.slice A2 sB.cur.length c2)).setIfInBounds 66 (.slice A3 sB.touch.length c3)).setIfInBounds 67 (.slice A4 sB.ends.length c4)).setIfInBounds 69 (.slice A5 sB.cvt.length c5)).setIfInBounds 70 (.slice A6 32 c6)).setIfInBounds 71 (.int .i64 (k32 size))).setIfInBounds 74 (.int .i64 1)) 104)).drew=W2 at *;generalize W.heap.size=sb at *;generalize (⟨.slice A1 sB.org.length c1,.slice A2 sB.cur.length c2,.slice A3 sB.touch.length c3,.slice A4 sB.ends.length c4,.slice none 0 0,.slice A5 sB.cvt.length c5,.slice A6 32 c6⟩:SLay)=L0 at *;have H0:Hid (BInv w sb cvt size z eA (.int .i64 (-1)) (.int .i64 0) W2):=Aa ⟨0,-1,L0,[],Nat.zero_le _,rfl,rfl,by omega,by omega,HS.out,HSRB.out,HBL2.out,HREAD.out,by simp,Ad⟩;have hel:=HZK.out.ends;have hcl:=HZK.out.cur;clear HS HSRB HBL2 HREAD HBL HRA HAP HSB HOK hWz hz2;go_wp2_with fail
 clear y3 yl;go_loopw [7,30] (fun la i wr=>BInv w sb cvt size z eA la i wr) (fun _ i _=>z.ends.length-(intOf i).toNat)
 case atStart=>exact H0.out
 case round =>
  clear H0;obtain⟨j,la,L,cs,hj,rfl,rfl,hla1,hla2,hS,hB,hbl,hrd,hcs,hcl2⟩:=hrel;have HSL:=Aa hS;have HB:=Aa hB;have HBL:=Aa hbl;have HRD:=Aa hrd;have HCL2:=Aa hcl2;by_cases hjl:(j:Int)<z.ends.length
  ·obtain⟨e,he⟩:∃ e,z.ends[j]?=some e:=⟨_,List.getElem?_eq_getElem (by omega)⟩;obtain⟨eb,eo,heA,heb,hec⟩:=hrd.at_ (by omega);subst heA;have x6:=hec _ _ (Bf he);have hebl:eb<wr.heap.size:=by have:=hbl.size;omega
   have hdr:z.ends.drop j=e::z.ends.drop (j+1):=by rw[List.drop_eq_getElem_cons (by omega)];congr 1;have:=List.getElem?_eq_getElem (l:=z.ends) (i:=j) (by omega);rw[this] at he;exact Option.some.inj he
   rw[hdr,Mc.conts] at hcs;have hcu:(s0 cvt size z cs).m.cur.length=z.cur.length:=by simp[s0,Sr.begin_,begin_]
   obtain⟨Au,cu,hvu,_,_⟩:=Ae hS.cu;have c65:=hS.c65;rw[hvu,hcu] at c65;have hlb:=hS.blk.lt;by_cases hge:la<e∧e<(z.cur.length:Int)
   ·obtain⟨hg1,hg2⟩:=hge;rw[if_pos ⟨hg1,hg2⟩] at hcs;obtain⟨Ac,kc,hco,_,_⟩:=Ae hS.co;have c68:=hS.c68;rw[hco] at c68;have HMA:=Aa (hS.alloc (.cells #[.int .i64 (la+1),.int .i64 e] 157));have HRD2:=Aa (hrd.keep (w':=wr.alloc (.cells #[.int .i64 (la+1),.int .i64 e] 157)) fun q hq=>by have:=hbl.size;exact World.cell?_alloc_lt _ _ _ (by omega));have HBL2:=Aa (hbl.alloc hbl.size (.cells #[.int .i64 (la+1),.int .i64 e] 157));have HCO:=Aa hco;have HCS:=Aa hcs;have HCU:=Aa hcu;have hOW:=HMA.out.co;rw[hco] at hOW;have HOW:=Aa hOW;have HRB:=Aa (Reads.blk (cs:=[.int .i64 (la+1),.int .i64 e]) (Blk.new wr 157 #[.int .i64 (la+1),.int .i64 e]) 2 1 rfl);have hw1:IntKind.i64.wrap (la+1)=la+1:=by rw[IntWalk.i64_in _ (by omega)]
    obtain⟨i0,hi0,hi1,hi2,hi3⟩:=Dc Tq;have hsl:(s0 cvt size z cs).m.cont.length=cs.length:=rfl;have HSLN:=Aa hsl;rw[hsl] at c68;clear hS hB hbl hrd hcs he hdr hec hvu hcu hOW hco hsl;go_wp2_with (at_builtin;refine Br _ rfl (.tmp 51) (.tmp 56) _ rfl 0 157 i0 _ 2 16 Tryz.underlying102 hi0 hi1 hi2 hi3 rfl (show 0<2 by decide) (.slice Ac cs.length kc) cs.length (cts cs) rfl HOW.out _ _ 1 1 [.int .i64 (la+1),.int .i64 e] rfl HRB.out (by simp[Value.oneCell']) (by unfold maxLen;omega) (by omega) (Nat.zero_le _) ?_;intro v' w1 ho1 hg1' hnb;obtain⟨hbk,hm4⟩:=HMA.out.tour (c:=((la+1).toNat,e.toNat)) (v':=v') (w1:=w1) (by simp only[HCU.out];omega) (by simp only[HSLN.out];omega) (by simp only[HSLN.out];rw[Int.toNat_of_nonneg (by omega),Int.toNat_of_nonneg (by omega)];exact ho1) (by rw[HCO.out];exact hg1');have HM4:=Aa hm4;have HG1:=Aa hg1';have HNB:=Aa hnb;have HBK:=Aa hbk;obtain⟨Av,cv,hvv,_⟩:=Ae ho1;subst hvv;have f68:=hbk.frozen 68;have b68:∃ u,w1.cell? ⟨sb,68,none⟩=some u:=⟨_,(hbk.cell 68).trans (Ee HMA.out.ok.rl 4)⟩;obtain⟨u68,b68⟩:=b68;have l68:=hbk.lt;clear hm4 hg1' hnb hbk ho1)
    have hb3:Below w.heap.size w (w1.setCell ⟨sb,68,none⟩ (.slice Av (cs.length+1) cv)):=(HBL2.out.grown HG1.out (by have:=HBL2.out.size;exact this) (fun b hb=>by
     exact HB.out b (.inr (.inr (.inr (.inr (.inr (.inl (by rw[HCO.out];exact hb))))))))).setCell (p:=⟨sb,68,none⟩) (HB.out sb (.inl rfl)) _
    have hbw:=HBL.out.size;refine⟨⟨j+1,e,_,_,by omega,by simp,rfl,by omega,by omega,HM4.out,fun k hk=>?_,hb3,HRD2.out.keep fun q hq=>(hb3.cell hq).trans ((HBL2.out.cell hq).symm),by rw[List.append_assoc];exact HCS.out,by rw[List.length_append];exact Nat.succ_le_succ HCL2.out⟩,by simp[intOf];omega⟩;rcases hk with hk|hk|hk|hk|hk|hk|hk|hk
    ·exact HB.out k (.inl hk)
    ·exact HB.out k (.inr (.inl hk))
    ·exact HB.out k (.inr (.inr (.inl hk)))
    ·exact HB.out k (.inr (.inr (.inr (.inl hk))))
    ·exact HB.out k (.inr (.inr (.inr (.inr (.inl hk)))))
    ·rcases HNB.out with h|h
     ·exact HB.out k (.inr (.inr (.inr (.inr (.inr (.inl (by rw[HCO.out];exact h ▸ hk)))))))
     ·rw[h] at hk
      injection hk with hk
      simp at hk;omega
    ·exact HB.out k (.inr (.inr (.inr (.inr (.inr (.inr (.inl hk)))))))
    ·exact HB.out k (.inr (.inr (.inr (.inr (.inr (.inr (.inr hk)))))))
   ·rw[if_neg hge] at hcs;have HCE:Hid (BInv w sb cvt size z (some ⟨eb,eo,none⟩) (.int .i64 la) (.int .i64 ((j:Int)+1)) wr):=Aa ⟨j+1,la,L,cs,by omega,by simp,rfl,hla1,hla2,hS,hB,hbl,hrd,hcs,by omega⟩;clear hS hB hbl hrd hcs he hdr hec hvu hcu;by_cases hg1:la<e
    ·have hg2:¬ e<(z.cur.length:Int):=fun h=>hge ⟨hg1,h⟩
     go_wp2_with fail
     refine⟨HCE.out,by simp[intOf];omega⟩
    ·go_wp2_with fail
     refine⟨HCE.out,by simp[intOf];omega⟩
  ·have hje:j=z.ends.length:=by omega
   subst hje;have hq:s0 cvt size z cs=Sr.begin_ cvt size z:=by
    rw[List.drop_length,Mc.conts,List.append_nil] at hcs;unfold s0;rw[hcs];rfl
   have HE:Hid (Yx w cvt size z (.returned (.pointer (some ⟨sb,0,none⟩))) wr):=Aa ⟨sb,L,rfl,hq ▸ hS,hB,hbl⟩;clear hS hB hbl hrd hcs hq;go_wp2;go_ret;exact HE.out
end Go.Proofs.YtnhebmgibiomnaaGreat
namespace Go.Proofs.YtnhebmgibiomnaaGreat
open Go.RowKit Mc
namespace Sr
theorem uses_small {op:Int} (h:(uses op).2=true):∃ k:Nat,op=k∧k<43:=by
 unfold uses at h;have:0≤op∧op<43:=by
  repeat' split at h
  all_goals first|omega|cases h
 exact⟨op.toNat,by omega,by omega⟩
theorem Vq {n:Int} (h:rg n=true):∃ d:Nat,n=d∧d<64:=by
 unfold rg at h;simp only[decide_eq_true_eq] at h;exact⟨n.toNat,by omega,by omega⟩
theorem can_of {r:Reg} {s:St} {b:Int} (h:fits r b=true) (hb:(s.pc:Int)+b≤1000000):r.Can s:=by
 unfold fits there at h;simp only[Bool.and_eq_true,Bool.or_eq_true,decide_eq_true_eq,Bool.not_eq_eq_eq_not,Bool.not_true] at h;obtain⟨⟨_,⟨h1,h2⟩,h3⟩,h4⟩:=h;refine⟨fun e=>Vq (h1.resolve_left (by omega)),fun e=>Vq (h2.resolve_left (by omega)),fun e=>Vq (h3.resolve_left (by omega)),fun e=>?_⟩;obtain⟨h5,h6⟩:=h4.resolve_left (by rw[e];decide);exact⟨r.n.toNat,by omega,by omega⟩
theorem step_in {code:List Reg} {s:St} (hf:fitsAll code=true) {r:Reg} (hr:code[s.pc]?=some r) (h42:r.op≠42):(step code s).steps=s.steps+1∧s.pc<(step code s).pc∧(step code s).pc<code.length∧step code s=deed r { s with pc:=s.pc+1,steps:=s.steps+1 } := by
 have h:=fitsAll_at hf hr;have hl:=(List.getElem?_eq_some_iff.1 hr).1;have hg:code.getD s.pc nop=r:=by rw[List.getD_eq_getElem?_getD,hr];rfl
 have hq:step code s=deed r { s with pc:=s.pc+1,steps:=s.steps+1 } := by unfold step;rw[hg]
 obtain⟨d1,d2,d3⟩:=Zfl (s := { s with pc:=s.pc+1,steps:=s.steps+1 }) h;rw[hq];simp only at d1 d2 d3;have hne:s.pc+1<code.length:=by
  unfold fits at h;simp only[Bool.and_eq_true] at h;have h2:=h.1.1.2;rw[decide_eq_false h42] at h2;have h3:¬ ((code.length:Int)-1-s.pc=0):=by simpa using h2
  omega
 have hn:(if leaps r.op=true then r.n else 0)<(code.length:Int)-1-s.pc:=by
  split
  ·rename_i hlp;unfold fits at h;simp only[hlp,Bool.and_eq_true,Bool.not_true,Bool.false_or,decide_eq_true_eq] at h;exact h.2.2
  ·omega
 exact⟨d1,by omega,by omega,rfl⟩
theorem runs_end {code:List Reg} {s:St} {n:Nat} (h:(code.getD s.pc nop).op=42):runs n code s=s:=by
 cases n with
 | zero=>rfl
 | succ n=>unfold runs;rw[if_pos h]
theorem runs_step {code:List Reg} {s:St} {n:Nat} (h:(code.getD s.pc nop).op≠42):runs (n+1) code s=runs n code (step code s):=by
 conv=>lhs;unfold runs
 rw[if_neg h]
end Sr
def DoMap (mb:Nat) (W:World):Prop:=∃ bs clock,W.heap[mb]?=some (.map (Rn bs 36).toArray clock)∧∀ i,i<36→DoBox W (fun k=>mb<k∧k<W.heap.size) bs i
theorem SrS.all {L:SLay} {sb k:Nat} (hk:SrS L sb k):k=sb∨L.og.ownBlock=some k∨L.cu.ownBlock=some k∨L.tq.ownBlock=some k∨L.en.ownBlock=some k∨L.co.ownBlock=some k∨L.cv.ownBlock=some k∨L.st.ownBlock=some k:=by
 rcases hk with e|e|e|e|e
 ·exact .inl e
 ·exact .inr (.inr (.inl e))
 ·exact .inr (.inr (.inr (.inl e)))
 ·exact .inr (.inr (.inr (.inr (.inr (.inr (.inl e))))))
 ·exact .inr (.inr (.inr (.inr (.inr (.inr (.inr e))))))
structure RunS (w:World) (B sb mb:Nat) (L:SLay) (code:List Sr.Reg) (A:Option Addr) (T:Sr.St) (s:Sr.St) (W:World):Prop where
 run:SrL W sb L s
 own:SrB B L sb
 map:DoMap mb W
 mb:w.heap.size≤mb
 rd:Reads W B 5 A code.length (Ba code)
 fr:Fr (SrS L sb) w W
 pc:s.pc<code.length
 steps:s.steps≤s.pc
 to_:∃ n,code.length≤n+s.pc∧Sr.runs n code s=T
def Qe (w:World) (sb:Nat) (L:SLay) (T:Sr.St) (e:Ending) (w':World):Prop:=e=.returned (.tuple #[])∧SrL w' sb L T∧Fr (SrS L sb) w w'
theorem Rk {mb:Nat} {W:World} (h:DoMap mb W) {i:Nat} (hi:i<36):∃ bs,DoBox W (fun k=>mb<k∧k<W.heap.size) bs i∧Sem.run Tryz.prog (Instr.lookup 158 (.map (some mb)) (.int .i64 (Ge i:Int)) false) W=.ok (doV bs i) W:=by
 obtain⟨bs,clock,hm,hbx⟩:=h;refine⟨bs,hbx i hi,?_⟩;have hj:(Rn bs 36).toArray.toList[i]?=some ⟨.int .i64 (Ge i:Int),doV bs i,i⟩:=by
  unfold Rn;rw[List.toList_toArray,List.getElem?_map,List.getElem?_range hi];rfl
 refine Gt (P:=Tryz.prog) Tryz.underlying158 Tryz.underlying3 hm hj rfl fun j' e' hj' he'=>?_
 unfold Rn at he';rw[List.toList_toArray,List.getElem?_map,List.getElem?_range (by omega)] at he';simp only[Option.map_some,Option.some.injEq] at he';subst he';exact⟨_,rfl,by have:=Rl i hi j' hj';omega⟩
theorem DoMap.fr {mb:Nat} {S:Nat→Prop} {W W':World} (h:DoMap mb W) (hf:Fr S W W') (hS:∀ k,S k→k<mb):DoMap mb W':=by
 obtain⟨bs,clock,h1,h2⟩:=h;have hlt:mb<W.heap.size:=(Array.getElem?_eq_some_iff.1 h1).1;have hz:=hf.size;have hk:∀ k,mb≤k→k<W.heap.size→W'.heap[k]?=W.heap[k]?:=fun k h1 h2=>hf.block k h2 (fun e=>by have:=hS k e;omega)
 exact⟨bs,clock,(hk _ Ad hlt).trans h1,fun i hi=>(h2 i hi).keep rfl (fun g t cs hb hg=>(hk g (by omega) hg.2).trans hb) (fun k hk=>⟨hk.1,by omega⟩)⟩
def RunJ (w:World) (B sb:Nat) (L:SLay) (code:List Sr.Reg) (A:Option Addr) (c:Nat) (T:Sr.St) (a:Act) (W:World):Prop :=
 ∃ (s1:Sr.St) (mb:Nat) (u5 u6 u7 u8 u9 u10 u11 u12 u13 u14 u15 u16 u17 u18 u19 u20 u21 u22 u23 u24 u25 u26 u27 u28 u29 u30 u31 u32 u33 u34 u35 u36 u37:Value),a = { tmps:=#[.pointer (some ⟨sb,0,none⟩),.slice A code.length c,undef,undef,.map (some mb),u5,u6,u7,u8,u9,u10,u11,u12,u13,u14,u15,u16,u17,u18,u19,u20,u21,u22,u23,u24,u25,u26,u27,u28,u29,u30,u31,u32,u33,u34,u35,u36,u37],defers:=[] }∧RunS w B sb mb L code A T s1 W
def Ys (sb:Nat) (code:List Sr.Reg) (W:World):Nat:=code.length-(intOf ((W.cell? ⟨sb,75,none⟩).getD undef)).toNat
theorem Zu (w:World) (sb:Nat) (L:SLay) (s:Sr.St) (h:SrL w sb L s) (B:Nat) (code:List Sr.Reg) (A:Option Addr) (c:Nat) (hB:SrB B L sb) (hBw:B≤w.heap.size) (hrd:Reads w B 5 A code.length (Ba code)) (hr:Sr.right code=true) (hpc:s.pc=0) (hst:s.steps=0) :
  Calls Tryz.prog 41 #[.pointer (some ⟨sb,0,none⟩),.slice A code.length c] w (Qe w sb L (Sr.runs code.length code s)):=by
 go_enter Tryz.func41,Tryz.ntmps41;generalize hT:Sr.runs code.length code s=T at *;have hfa:Sr.fitsAll code=true:=by
  unfold Sr.right at hr;simp only[Bool.and_eq_true] at hr;exact hr.1.2
 have hcl:1≤code.length∧code.length≤80000:=by
  unfold Sr.right at hr;simp only[Bool.and_eq_true,decide_eq_true_eq] at hr;exact hr.1.1
 obtain⟨hc1,hc2⟩:=hcl;have HFA:=Aa hfa;have H0:Hid (∀ W,DoI w 36 W→RunS w B sb w.heap.size L code A T s W):=Aa fun W hW=>by
  have hg:Grow w W:=by
   obtain⟨_,_,_,hb⟩:=hW;exact Fr.of_below hb (fun _ hk _=>hk)
  have hf:Fr (SrS L sb) w W:=by
   obtain⟨_,_,_,hb⟩:=hW;exact Fr.of_below hb (fun _ hk _=>hk)
  exact⟨h.grow hg,hB,(by obtain⟨bs,h1,h2,_⟩:=hW;exact⟨bs,36,h1,h2⟩),Ad,hrd.keep (fun q hq=>hg.cell (by omega) (fun x=>x)),hf,by omega,by omega,⟨code.length,by omega,hT⟩⟩
 have hSB:=hB;have HOL:=Aa (fun k (hk:SrS L sb k)=>h.olt hk);have HSB:=Aa hSB;clear h hB hrd hr hpc hst hT hfa hSB;go_wp2_with fail
 refine wp_scope_jumps 0 (RunJ w B sb L code A c T) (fun _ W=>Ys sb code W) rfl ?_ ?_
 ·go_wp2_with fail
  refine(Tx w).mono ?_;rintro e W ⟨rfl,hd⟩;have HR:=Aa (H0.out W hd);clear H0 hd;generalize hs1:s=s1 at HR;clear hs1;generalize w.heap.size=mb at HR ⊢;go_wp2_with fail
  go_step3;have hpc:=HR.out.pc;have hst:=HR.out.steps;obtain⟨⟨op,d,a,b,n⟩,hr⟩:∃ r,code[s1.pc]?=some r:=⟨_,List.getElem?_eq_getElem hpc⟩;have HRC:=Aa hr;obtain⟨cb,off,hAe,hcbB,hcells⟩:=HR.out.rd.2 (by omega);obtain⟨g0,g1,g2,g3,g4⟩:=Dh code s1.pc _ hr;have d0:=hcells _ _ g0;have d1:=hcells _ _ g1;have d2:=hcells _ _ g2;have d3:=hcells _ _ g3;have d4:=hcells _ _ g4;rw[←Nat.add_assoc] at d1 d2 d3 d4;simp only at d0 d1 d2 d3 d4;have c75:=HR.out.run.c75;have c76:=HR.out.run.c76;have f75:=HR.out.run.blk.frozen 75;have f76:=HR.out.run.blk.frozen 76;have hlb:=HR.out.run.blk.lt;have hlc:cb<W.heap.size:=by have:=HR.out.fr.size;omega
  have HAE:=Aa hAe;subst hAe;have HM0:=Aa (show Ys sb code W=code.length-s1.pc by unfold Ys;rw[c75];simp[intOf]);generalize hp:s1.pc=pc at d0 d1 d2 d3 d4 c75 hpc hst;have HP:=Aa hp;generalize hs:s1.steps=st at c76 hst;have HS:=Aa hs;clear hr hcells g0 g1 g2 g3 g4 hp hs;have hB3:=HR.out.run.alloc (.cells #[.int .i64 op,.int .i64 d,.int .i64 a,.int .i64 b,.int .i64 n] 50);by_cases h42:op=42
  ·subst h42;have HE:Hid (Qe w sb L T (.returned (.tuple #[])) (W.alloc (.cells #[.int .i64 42,.int .i64 d,.int .i64 a,.int .i64 b,.int .i64 n] 50))):=Aa (by
    obtain⟨m,_,hm⟩:=HR.out.to_;rw[Sr.runs_end (by rw[List.getD_eq_getElem?_getD,HRC.out];rfl)] at hm;exact⟨rfl,hm ▸ hB3,HR.out.fr.alloc _⟩)
   clear hB3;go_wp2_with fail
   simp only[Exit.jump];go_end0;exact HE.out
  ·have b42:(op==42)=false:=by simpa using h42
   clear hB3;have e1:((pc+1:Nat):Int)=(pc:Int)+1:=by omega
   have e2:((st+1:Nat):Int)=(st:Int)+1:=by omega
   have hR3:=((HR.out.run.setPc (pc+1)).setSteps (st+1)).alloc (.cells #[.int .i64 op,.int .i64 d,.int .i64 a,.int .i64 b,.int .i64 n] 50);have hF3:=(((Fr.refl (SrS L sb) W).setCell (p:=⟨sb,75,none⟩) (.inl (.inl rfl)) (.int .i64 ((pc+1:Nat):Int))).setCell (p:=⟨sb,76,none⟩) (.inl (.inl rfl)) (.int .i64 ((st+1:Nat):Int))).alloc (.cells #[.int .i64 op,.int .i64 d,.int .i64 a,.int .i64 b,.int .i64 n] 50);rw[e1,e2] at hR3 hF3;have hstep:=Sr.step_in HFA.out HRC.out h42;rw[HP.out,HS.out] at hstep;obtain⟨q1,q2,q3,q4⟩:=hstep;have hfit:=Sr.fitsAll_at HFA.out HRC.out;have hcan:=Sr.can_of (s := { s1 with pc:=pc+1,steps:=st+1 }) hfit (by simp only;rw[HP.out];omega);have hun:(Sr.uses op).2=true:=by
    unfold Sr.fits at hfit;simp only[Bool.and_eq_true] at hfit;exact hfit.1.1.1
   obtain⟨k,hk,hk43⟩:=Sr.uses_small hun;obtain⟨i,hi,hki⟩:=Rm k hk43 (hk ▸ hun) (fun e=>h42 (by omega));have hop:op=(Ge i:Int):=by omega
   have hmap:=HR.out.map.fr hF3 (fun k hk=>by have:=HOL.out k hk;have:=HR.out.mb;omega);obtain⟨bs,hbx,hlk⟩:=Rk hmap hi;obtain⟨id,hid1,hid2,hcall⟩:=Zcd (i:=i) (r:=⟨op,d,a,b,n⟩) hR3 hi hop hcan hbx;rw[←hop] at hlk;have hcap:∃ caps,doV bs i=.func (.func id) #[] caps∧(caps = #[]∨∃ p,caps = #[p])∧Calls Tryz.prog id (#[.pointer (some ⟨sb,0,none⟩),Cu ⟨op,d,a,b,n⟩]++caps) (((W.setCell ⟨sb,75,none⟩ (.int .i64 ((pc:Int)+1))).setCell ⟨sb,76,none⟩ (.int .i64 ((st:Int)+1))).alloc (.cells #[.int .i64 op,.int .i64 d,.int .i64 a,.int .i64 b,.int .i64 n] 50)) (SPost (((W.setCell ⟨sb,75,none⟩ (.int .i64 ((pc:Int)+1))).setCell ⟨sb,76,none⟩ (.int .i64 ((st:Int)+1))).alloc (.cells #[.int .i64 op,.int .i64 d,.int .i64 a,.int .i64 b,.int .i64 n] 50)) sb L (Sr.deed ⟨op,d,a,b,n⟩ { s1 with pc:=pc+1,steps:=st+1 })):=by
    unfold doV;rw[hid1];cases hq:(Zfk i).2 with
    | none=>rw[hq] at hcall;exact⟨_,rfl,.inl rfl,hcall⟩
    | some q=>rw[hq] at hcall;exact⟨_,rfl,.inr ⟨_,rfl⟩,hcall⟩
   obtain⟨caps,hv,hcaps,hcall⟩:=hcap;rw[hv] at hlk;have HNX:Hid (∀ w9,SPost (((W.setCell ⟨sb,75,none⟩ (.int .i64 ((pc:Int)+1))).setCell ⟨sb,76,none⟩ (.int .i64 ((st:Int)+1))).alloc (.cells #[.int .i64 op,.int .i64 d,.int .i64 a,.int .i64 b,.int .i64 n] 50)) sb L (Sr.deed ⟨op,d,a,b,n⟩ { s1 with pc:=pc+1,steps:=st+1 }) (.returned (.tuple #[])) w9→∃ s2,RunS w B sb mb L code (some ⟨cb,off,none⟩) T s2 w9∧Ys sb code w9<Ys sb code W):=Aa fun w9 hp=>by
    have hf9:=hF3.trans hp.2.2;refine⟨Sr.step code s1,⟨by rw[q4];exact hp.2.1,HR.out.own,HR.out.map.fr hf9 (fun k hk=>by have:=HOL.out k hk;have:=HR.out.mb;omega),HR.out.mb,?_,HR.out.fr.trans hf9,q3,by omega,?_⟩,?_⟩
    ·have:=HR.out.rd;rw[HAE.out] at this;exact this.keep (fun q hq=>hf9.cell (by have:=HR.out.fr.size;omega) (fun e=>by have:=HSB.out _ (SrS.all e);omega))
    ·obtain⟨m,hm1,hm2⟩:=HR.out.to_;have hp0:=HP.out;have hm0:m≠0:=by omega
     obtain⟨m,rfl⟩:∃ m',m=m'+1:=⟨m-1,by omega⟩;refine⟨m,by omega,?_⟩;rw[←hm2,Sr.runs_step (by rw[List.getD_eq_getElem?_getD,HRC.out];exact h42)]
    ·have hp0:=HP.out;rw[HM0.out];have:=hp.2.1.c75;unfold Ys;rw[this];rw[←q4];simp only[Option.getD_some,intOf,Int.toNat_natCast];omega
   clear hR3 hF3 hfit hcan hun hk hki hop hmap hbx hid1 hv q1 q2 q3 q4 e1 e2 h42;unfold Cu at hcall;rcases hcaps with rfl|⟨p,rfl⟩
   all_goals
    go_wp2_with fail
    refine hcall.mono ?_;intro e w9 hp;obtain⟨s2,hR2,hM2⟩:=HNX.out w9 (by rw[←hp.1];exact hp);have HR2:=Aa hR2;have HM2:=Aa hM2;obtain⟨rfl,_⟩:=hp;clear hR2 hM2;go_wp2_with fail
    go_step3;exact⟨rfl,s2,mb,_,_,_,_,_,_,_,_,_,_,_,_,_,_,_,_,_,_,_,_,_,_,_,_,_,_,_,_,_,_,_,_,_,rfl,HR2.out⟩
 ·rintro a' W ⟨s1,mb,u5,u6,u7,u8,u9,u10,u11,u12,u13,u14,u15,u16,u17,u18,u19,u20,u21,u22,u23,u24,u25,u26,u27,u28,u29,u30,u31,u32,u33,u34,u35,u36,u37,rfl,hR⟩;have HR:=Aa hR;clear hR H0;have hpc:=HR.out.pc;have hst:=HR.out.steps;obtain⟨⟨op,d,a,b,n⟩,hr⟩:∃ r,code[s1.pc]?=some r:=⟨_,List.getElem?_eq_getElem hpc⟩;have HRC:=Aa hr;obtain⟨cb,off,hAe,hcbB,hcells⟩:=HR.out.rd.2 (by omega);obtain⟨g0,g1,g2,g3,g4⟩:=Dh code s1.pc _ hr;have d0:=hcells _ _ g0;have d1:=hcells _ _ g1;have d2:=hcells _ _ g2;have d3:=hcells _ _ g3;have d4:=hcells _ _ g4;rw[←Nat.add_assoc] at d1 d2 d3 d4;simp only at d0 d1 d2 d3 d4;have c75:=HR.out.run.c75;have c76:=HR.out.run.c76;have f75:=HR.out.run.blk.frozen 75;have f76:=HR.out.run.blk.frozen 76;have hlb:=HR.out.run.blk.lt;have hlc:cb<W.heap.size:=by have:=HR.out.fr.size;omega
  have HAE:=Aa hAe;subst hAe;have HM0:=Aa (show Ys sb code W=code.length-s1.pc by unfold Ys;rw[c75];simp[intOf]);generalize hp:s1.pc=pc at d0 d1 d2 d3 d4 c75 hpc hst;have HP:=Aa hp;generalize hs:s1.steps=st at c76 hst;have HS:=Aa hs;clear hr hcells g0 g1 g2 g3 g4 hp hs;have hB3:=HR.out.run.alloc (.cells #[.int .i64 op,.int .i64 d,.int .i64 a,.int .i64 b,.int .i64 n] 50);by_cases h42:op=42
  ·subst h42;have HE:Hid (Qe w sb L T (.returned (.tuple #[])) (W.alloc (.cells #[.int .i64 42,.int .i64 d,.int .i64 a,.int .i64 b,.int .i64 n] 50))):=Aa (by
    obtain⟨m,_,hm⟩:=HR.out.to_;rw[Sr.runs_end (by rw[List.getD_eq_getElem?_getD,HRC.out];rfl)] at hm;exact⟨rfl,hm ▸ hB3,HR.out.fr.alloc _⟩)
   clear hB3;go_wp2_with fail
   simp only[Exit.jump];go_end0;exact HE.out
  ·have b42:(op==42)=false:=by simpa using h42
   clear hB3;have e1:((pc+1:Nat):Int)=(pc:Int)+1:=by omega
   have e2:((st+1:Nat):Int)=(st:Int)+1:=by omega
   have hR3:=((HR.out.run.setPc (pc+1)).setSteps (st+1)).alloc (.cells #[.int .i64 op,.int .i64 d,.int .i64 a,.int .i64 b,.int .i64 n] 50);have hF3:=(((Fr.refl (SrS L sb) W).setCell (p:=⟨sb,75,none⟩) (.inl (.inl rfl)) (.int .i64 ((pc+1:Nat):Int))).setCell (p:=⟨sb,76,none⟩) (.inl (.inl rfl)) (.int .i64 ((st+1:Nat):Int))).alloc (.cells #[.int .i64 op,.int .i64 d,.int .i64 a,.int .i64 b,.int .i64 n] 50);rw[e1,e2] at hR3 hF3;have hstep:=Sr.step_in HFA.out HRC.out h42;rw[HP.out,HS.out] at hstep;obtain⟨q1,q2,q3,q4⟩:=hstep;have hfit:=Sr.fitsAll_at HFA.out HRC.out;have hcan:=Sr.can_of (s := { s1 with pc:=pc+1,steps:=st+1 }) hfit (by simp only;rw[HP.out];omega);have hun:(Sr.uses op).2=true:=by
    unfold Sr.fits at hfit;simp only[Bool.and_eq_true] at hfit;exact hfit.1.1.1
   obtain⟨k,hk,hk43⟩:=Sr.uses_small hun;obtain⟨i,hi,hki⟩:=Rm k hk43 (hk ▸ hun) (fun e=>h42 (by omega));have hop:op=(Ge i:Int):=by omega
   have hmap:=HR.out.map.fr hF3 (fun k hk=>by have:=HOL.out k hk;have:=HR.out.mb;omega);obtain⟨bs,hbx,hlk⟩:=Rk hmap hi;obtain⟨id,hid1,hid2,hcall⟩:=Zcd (i:=i) (r:=⟨op,d,a,b,n⟩) hR3 hi hop hcan hbx;rw[←hop] at hlk;have hcap:∃ caps,doV bs i=.func (.func id) #[] caps∧(caps = #[]∨∃ p,caps = #[p])∧Calls Tryz.prog id (#[.pointer (some ⟨sb,0,none⟩),Cu ⟨op,d,a,b,n⟩]++caps) (((W.setCell ⟨sb,75,none⟩ (.int .i64 ((pc:Int)+1))).setCell ⟨sb,76,none⟩ (.int .i64 ((st:Int)+1))).alloc (.cells #[.int .i64 op,.int .i64 d,.int .i64 a,.int .i64 b,.int .i64 n] 50)) (SPost (((W.setCell ⟨sb,75,none⟩ (.int .i64 ((pc:Int)+1))).setCell ⟨sb,76,none⟩ (.int .i64 ((st:Int)+1))).alloc (.cells #[.int .i64 op,.int .i64 d,.int .i64 a,.int .i64 b,.int .i64 n] 50)) sb L (Sr.deed ⟨op,d,a,b,n⟩ { s1 with pc:=pc+1,steps:=st+1 })):=by
    unfold doV;rw[hid1];cases hq:(Zfk i).2 with
    | none=>rw[hq] at hcall;exact⟨_,rfl,.inl rfl,hcall⟩
    | some q=>rw[hq] at hcall;exact⟨_,rfl,.inr ⟨_,rfl⟩,hcall⟩
   obtain⟨caps,hv,hcaps,hcall⟩:=hcap;rw[hv] at hlk;have HNX:Hid (∀ w9,SPost (((W.setCell ⟨sb,75,none⟩ (.int .i64 ((pc:Int)+1))).setCell ⟨sb,76,none⟩ (.int .i64 ((st:Int)+1))).alloc (.cells #[.int .i64 op,.int .i64 d,.int .i64 a,.int .i64 b,.int .i64 n] 50)) sb L (Sr.deed ⟨op,d,a,b,n⟩ { s1 with pc:=pc+1,steps:=st+1 }) (.returned (.tuple #[])) w9→∃ s2,RunS w B sb mb L code (some ⟨cb,off,none⟩) T s2 w9∧Ys sb code w9<Ys sb code W):=Aa fun w9 hp=>by
    have hf9:=hF3.trans hp.2.2;refine⟨Sr.step code s1,⟨by rw[q4];exact hp.2.1,HR.out.own,HR.out.map.fr hf9 (fun k hk=>by have:=HOL.out k hk;have:=HR.out.mb;omega),HR.out.mb,?_,HR.out.fr.trans hf9,q3,by omega,?_⟩,?_⟩
    ·have:=HR.out.rd;rw[HAE.out] at this;exact this.keep (fun q hq=>hf9.cell (by have:=HR.out.fr.size;omega) (fun e=>by have:=HSB.out _ (SrS.all e);omega))
    ·obtain⟨m,hm1,hm2⟩:=HR.out.to_;have hp0:=HP.out;have hm0:m≠0:=by omega
     obtain⟨m,rfl⟩:∃ m',m=m'+1:=⟨m-1,by omega⟩;refine⟨m,by omega,?_⟩;rw[←hm2,Sr.runs_step (by rw[List.getD_eq_getElem?_getD,HRC.out];exact h42)]
    ·have hp0:=HP.out;rw[HM0.out];have:=hp.2.1.c75;unfold Ys;rw[this];rw[←q4];simp only[Option.getD_some,intOf,Int.toNat_natCast];omega
   clear hR3 hF3 hfit hcan hun hk hki hop hmap hbx hid1 hv q1 q2 q3 q4 e1 e2 h42;unfold Cu at hcall;rcases hcaps with rfl|⟨p,rfl⟩
   all_goals
    go_wp2_with fail
    refine hcall.mono ?_;intro e w9 hp;obtain⟨s2,hR2,hM2⟩:=HNX.out w9 (by rw[←hp.1];exact hp);have HR2:=Aa hR2;have HM2:=Aa hM2;obtain⟨rfl,_⟩:=hp;clear hR2 hM2;go_wp2_with fail
    go_step3;exact⟨rfl,⟨s2,mb,_,_,_,_,_,_,_,_,_,_,_,_,_,_,_,_,_,_,_,_,_,_,_,_,_,_,_,_,_,_,_,_,_,rfl,HR2.out⟩,HM2.out⟩
end Go.Proofs.YtnhebmgibiomnaaGreat
namespace Go.Proofs.YtnhebmgibiomnaaGreat
open Go.RowKit Mc
theorem Sq {w W:World} {B b:Nat} {v0 v1 v2 v3 v4 v5 v6 v7 v8 v9:Value} (hb:Blk W b 39 #[v0,v1,v2,v3,v4,v5,v6,v7,v8,v9]) (hB:B≤b) (hbl:Below B w W) (u0 u1 u2 u3 u4 u5 u6 u7 u8 u9:Value) :
  Below B w (Hi W b u0 u1 u2 u3 u4 u5 u6 u7 u8 u9)∧Blk (Hi W b u0 u1 u2 u3 u4 u5 u6 u7 u8 u9) b 39 #[u0,u1,u2,u3,u4,u5,u6,u7,u8,u9]:=by
 have step:∀ {W:World} {cs:Array Value} (i:Nat) (u:Value),(Below B w W∧Blk W b 39 cs)→Below B w (W.setCell ⟨b,i,none⟩ u)∧Blk (W.setCell ⟨b,i,none⟩ u) b 39 (cs.setIfInBounds i u) :=
  fun i u hh=>⟨hh.1.setCell (p:=⟨b,i,none⟩) hB u,hh.2.set_ i u⟩
 have h:=step 9 u9 (step 8 u8 (step 7 u7 (step 6 u6 (step 5 u5 (step 4 u4 (step 3 u3 (step 2 u2 (step 1 u1 (step 0 u0 ⟨hbl,hb⟩)))))))));clear step;simp only[List.setIfInBounds_toArray,List.set_cons_zero,List.set_cons_succ] at h;exact h
def Sr.told (t:Sr.St) (n:Nat):Mc.St := { t.m with stack:=(t.regs.take n).reverse,steps:=t.steps,peak:=0,err:=0 }
def NoRun (w:World) (e:Ending) (w':World):Prop:=e=.returned (.agg #[.slice none 0 0,.slice none 0 0,.slice none 0 0,.slice none 0 0,.slice none 0 0,.slice none 0 0,.slice none 0 0,.int .i64 0,.int .i64 0,.int .i64 50])∧Below w.heap.size w w'
theorem Vi (w:World) (code:List Sr.Reg) (A:Option Addr) (c:Nat) (cvt:List Int) (size:Int) (z:Zn) (hcv:cvt.length≤1000000) (hz:ZnOk z) (hcl:code.length≤1000000000000) (fA mA cA oA tA eA uA:Option Addr) (fn fc mn mc cc oc tc ec uc:Nat) (hcode:Reads w w.heap.size 5 A code.length (Ba code)) (hcr:Reads w w.heap.size 1 cA cvt.length (ints cvt)) (hza:ZnAt w w.heap.size z oA uA tA eA) (hr:Sr.right code=false) :
  Calls Tryz.prog 17 #[.slice A code.length c,.agg #[.slice fA fn fc,.slice mA mn mc,.slice cA cvt.length cc,.int .i64 size],.agg #[.slice oA z.org.length oc,.slice uA z.cur.length uc,.slice tA z.touch.length tc,.slice eA z.ends.length ec]] w (NoRun w):=by
 obtain⟨X,hX⟩:∃ X,X=((w.alloc (.cells #[.slice fA fn fc,.slice mA mn mc,.slice cA cvt.length cc,.int .i64 size] 26)).alloc (.cells #[.slice oA z.org.length oc,.slice uA z.cur.length uc,.slice tA z.touch.length tc,.slice eA z.ends.length ec] 30)).alloc (.cells #[.slice none 0 0,.slice none 0 0,.slice none 0 0,.slice none 0 0,.slice none 0 0,.slice none 0 0,.slice none 0 0,.int .i64 0,.int .i64 0,.int .i64 0] 39):=⟨_,rfl⟩;have hXz:X.heap.size=w.heap.size+1+1+1:=by rw[hX];simp
 have hXG:Grow w X:=by rw[hX];exact(((Fr.refl _ w).alloc _).alloc _).alloc _
 have hbr:Blk X (w.heap.size+1+1) 39 #[.slice none 0 0,.slice none 0 0,.slice none 0 0,.slice none 0 0,.slice none 0 0,.slice none 0 0,.slice none 0 0,.int .i64 0,.int .i64 0,.int .i64 0]:=by rw[hX];exact Blk.new_at _ _ _ (by simp)
 have HC:=Aa (Dw A c w.heap.size code X (hcode.keep (w':=X) fun q hq=>hXG.cell hq (fun x=>x)) hXG.size hcl);rw[hr] at HC;have HXG:=Aa hXG;have HBR:=Aa hbr;have HX:=Aa hX;clear hX hXG hbr hcode hcr hza hz hcv hr;go_enter Tryz.func17,Tryz.ntmps17;go_upto_region 1 with fail
 rw[←HX.out];go_wp2_with fail
 refine HC.out.mono ?_;rintro e w1 ⟨rfl,hb1⟩;have hbr1:=HBR.out.below hb1 HBR.out.lt;have HB:=Aa ((Grow.below HXG.out Ad).trans (hb1.mono (by omega)));have b0:=hbr1.cell;have b1:=hbr1.frozen;have b2:=hbr1.lt;obtain⟨hs1,hs2⟩:=Sq hbr1 (show w.heap.size≤w.heap.size+1+1 by omega) HB.out (.slice none 0 0) (.slice none 0 0) (.slice none 0 0) (.slice none 0 0) (.slice none 0 0) (.slice none 0 0) (.slice none 0 0) (.int .i64 0) (.int .i64 0) (.int .i64 50);clear hb1 hbr1 HC;go_wp2_with fail
 obtain⟨W,hW⟩:∃ W,W=Hi w1 (w.heap.size+1+1) (.slice none 0 0) (.slice none 0 0) (.slice none 0 0) (.slice none 0 0) (.slice none 0 0) (.slice none 0 0) (.slice none 0 0) (.int .i64 0) (.int .i64 0) (.int .i64 50):=⟨_,rfl⟩;rw[←hW] at hs1 hs2;unfold Hi at hW;rw[←hW];clear hW;have e1:=hs2.cell;have y0:=e1 0;have y1:=e1 1;have y2:=e1 2;have y3:=e1 3;have y4:=e1 4;have y5:=e1 5;have y6:=e1 6;have y7:=e1 7;have y8:=e1 8;have y9:=e1 9;simp only[List.getElem?_toArray,List.getElem?_cons_zero,List.getElem?_cons_succ] at y0 y1 y2 y3 y4 y5 y6 y7 y8 y9;refine bodyPost_ret (v:=.agg #[.slice none 0 0,.slice none 0 0,.slice none 0 0,.slice none 0 0,.slice none 0 0,.slice none 0 0,.slice none 0 0,.int .i64 0,.int .i64 0,.int .i64 50]) (by simp[results,Tryz.results17,go_sem,y0,y1,y2,y3,y4,y5,y6,y7,y8,y9]) rfl ?_;exact⟨rfl,hs1⟩
def Sr.top (code:List Sr.Reg):Nat:=(code.getD (code.length-1) Sr.nop).n.toNat
theorem Sr.right_top {code:List Sr.Reg} (h:Sr.right code=true):∃ r,code[code.length-1]?=some r∧r.n=(Sr.top code:Int)∧Sr.top code≤64:=by
 unfold Sr.right at h;simp only[Bool.and_eq_true,decide_eq_true_eq] at h;obtain⟨⟨⟨h1,_⟩,_⟩,h3⟩:=h;rw[List.getLast?_eq_getElem?] at h3;obtain⟨r,hr⟩:∃ r,code[code.length-1]?=some r:=⟨_,List.getElem?_eq_getElem (by omega)⟩;rw[hr] at h3;simp only[decide_eq_true_eq] at h3;have ht:Sr.top code=r.n.toNat:=by unfold Sr.top;rw[List.getD_eq_getElem?_getD,hr];rfl
 exact⟨r,hr,by omega,by omega⟩
theorem Ph {W:World} {B size n:Nat} {t:TypeId} {v:Value} {xs:List Value} (h:W.ownsRow 0 t size v n xs) (hB:∀ g,v.ownBlock=some g→B≤g):W.ownsRow B t size v n xs:=by
 refine⟨h.1,?_⟩;rcases h.2 with h1|⟨g,cap,cur,hv,_,hr⟩
 ·exact .inl h1
 ·exact .inr ⟨g,cap,cur,hv,hB g (by rw[hv];rfl),hr⟩
theorem Sl (sb n:Nat) (hn:n≤64) (wq:World):Sem.run Tryz.prog (Instr.sliceAt 101 (.pointer (some ⟨sb,0,none⟩)) none (some (.int .i64 (n:Int))) none) wq=.ok (.slice (some ⟨sb,0,none⟩) n 64) wq:=by
 have hal:Tryz.prog.arrayLen 101=64:=by kernel_rfl
 have h:=run_sliceAt_array_h (P:=Tryz.prog) wq 101 ⟨sb,0,none⟩ Tryz.underlying101 .i64 (n:Int) (by omega) (by rw[hal];omega);rw[h,hal];rw[show (sizeOf (Tryz.prog.elem 101)).run Tryz.prog wq=.ok 1 wq by kernel_rfl];simp[Result.andThen,slicedAt,Addr.add]
theorem Qr (w:World) (code:List Sr.Reg) (A:Option Addr) (c:Nat) (cvt:List Int) (size:Int) (z:Zn) (hcv:cvt.length≤1000000) (hz:ZnOk z) (hcl:code.length≤1000000000000) (fA mA cA oA tA eA uA:Option Addr) (fn fc mn mc cc oc tc ec uc:Nat) (hcode:Reads w w.heap.size 5 A code.length (Ba code)) (hcr:Reads w w.heap.size 1 cA cvt.length (ints cvt)) (hza:ZnAt w w.heap.size z oA uA tA eA) (hr:Sr.right code=true) :
  Calls Tryz.prog 17 #[.slice A code.length c,.agg #[.slice fA fn fc,.slice mA mn mc,.slice cA cvt.length cc,.int .i64 size],.agg #[.slice oA z.org.length oc,.slice uA z.cur.length uc,.slice tA z.touch.length tc,.slice eA z.ends.length ec]] w (Qf w (Sr.told (Sr.run code cvt size z) (Sr.top code))):=by
 obtain⟨X,hX⟩:∃ X,X=((w.alloc (.cells #[.slice fA fn fc,.slice mA mn mc,.slice cA cvt.length cc,.int .i64 size] 26)).alloc (.cells #[.slice oA z.org.length oc,.slice uA z.cur.length uc,.slice tA z.touch.length tc,.slice eA z.ends.length ec] 30)).alloc (.cells #[.slice none 0 0,.slice none 0 0,.slice none 0 0,.slice none 0 0,.slice none 0 0,.slice none 0 0,.slice none 0 0,.int .i64 0,.int .i64 0,.int .i64 0] 39):=⟨_,rfl⟩;have hXz:X.heap.size=w.heap.size+1+1+1:=by rw[hX];simp
 have hXG:Grow w X:=by rw[hX];exact(((Fr.refl _ w).alloc _).alloc _).alloc _
 have hbp:Blk X w.heap.size 26 #[.slice fA fn fc,.slice mA mn mc,.slice cA cvt.length cc,.int .i64 size]:=by rw[hX];exact((Blk.new _ _ _).alloc _).alloc _
 have hbz:Blk X (w.heap.size+1) 30 #[.slice oA z.org.length oc,.slice uA z.cur.length uc,.slice tA z.touch.length tc,.slice eA z.ends.length ec]:=by rw[hX];exact(Blk.new_at _ _ _ (by simp)).alloc _
 have hbr:Blk X (w.heap.size+1+1) 39 #[.slice none 0 0,.slice none 0 0,.slice none 0 0,.slice none 0 0,.slice none 0 0,.slice none 0 0,.slice none 0 0,.int .i64 0,.int .i64 0,.int .i64 0]:=by rw[hX];exact Blk.new_at _ _ _ (by simp)
 have hcX:=hcode.keep (w':=X) fun q hq=>hXG.cell hq (fun x=>x)
 have HC:=Aa (Dw A c w.heap.size code X hcX hXG.size hcl);rw[hr] at HC;have HXG:=Aa hXG;have HBP:=Aa hbp;have HBZ:=Aa hbz;have HBR:=Aa hbr;have HX:=Aa hX;have HCX:=Aa hcX;have HRX:=Aa (hcr.keep (w':=X) fun q hq=>hXG.cell hq (fun x=>x));have HZX:=Aa (hza.keep (W':=X) fun q hq=>hXG.cell hq (fun x=>x));have HRT:=Aa hr;have HZK:=Aa hz;clear hX hXG hbp hbz hbr hcode hcr hza hz hr hcX;go_enter Tryz.func17,Tryz.ntmps17;go_upto_region 1 with fail
 rw[←HX.out];go_wp2_with fail
 refine HC.out.mono ?_;rintro e w1 ⟨rfl,hb1⟩;have hz1:=hb1.size;have p0:=Ab ((HBP.out.below hb1 HBP.out.lt)) 0 rfl;have p1:=Ab ((HBP.out.below hb1 HBP.out.lt)) 1 rfl;have p2:=Ab ((HBP.out.below hb1 HBP.out.lt)) 2 rfl;have p3:=Ab ((HBP.out.below hb1 HBP.out.lt)) 3 rfl;have q0:=Ab ((HBZ.out.below hb1 HBZ.out.lt)) 0 rfl;have q1:=Ab ((HBZ.out.below hb1 HBZ.out.lt)) 1 rfl;have q2:=Ab ((HBZ.out.below hb1 HBZ.out.lt)) 2 rfl;have q3:=Ab ((HBZ.out.below hb1 HBZ.out.lt)) 3 rfl;have hk1:∀ q:Addr,q.block<w.heap.size→w1.cell? q=X.cell? q:=fun q hq=>hb1.cell (by have:=HXG.out.size;omega)
 have hw1:w.heap.size≤w1.heap.size:=by omega
 have HBG:=Aa (Yo w1 cvt size z hcv HZK.out fA mA cA oA tA eA uA fn fc mn mc cc oc tc ec uc ((HRX.out.keep hk1).more hw1) ((HZX.out.keep hk1).mor hw1));have HC1:=Aa ((HCX.out.keep hk1).more hw1);have HB1:=Aa ((Grow.below HXG.out Ad).trans (hb1.mono (show w.heap.size≤X.heap.size by omega)));have HBR1:=Aa (HBR.out.below hb1 HBR.out.lt);clear hb1 hk1 HC HRX HZX HCX;go_wp2_with fail
 refine HBG.out.mono ?_;rintro e w2 ⟨sb,L,rfl,hL,hB,hb2⟩;have HSB:=Aa hB;have HB2:=Aa (HB1.out.trans (hb2.mono hw1));have HBR2:=Aa (HBR1.out.below hb2 HBR1.out.lt);have hrd2:=HC1.out.keep (w':=w2) fun q hq=>hb2.cell hq
 have HRD2:=Aa hrd2;have HRN:=Aa (Zu w2 sb L _ hL w1.heap.size code A c hB hb2.size hrd2 HRT.out rfl rfl);have hz2:=hb2.size;clear hL hB hb2 HBG HC1 HBR1 hrd2 p0 p1 p2 p3 q0 q1 q2 q3;go_wp2_with fail
 refine HRN.out.mono ?_;rintro e w3 ⟨rfl,hL,hF⟩;have hT:Sr.runs code.length code (Sr.begin_ cvt size z)=Sr.run code cvt size z:=rfl;rw[hT] at hL;generalize Sr.run code cvt size z=T at *;have hz3:=hF.size;have hb3:Below w1.heap.size w2 w3:=⟨hF.os,hF.tape,hF.output,hF.size,fun k hk=>hF.block k (by omega) (fun e=>by have:=HSB.out k (SrS.all e);omega)⟩;have HB3:=Aa (HB2.out.trans (hb3.mono hw1));have HBR3:=Aa (HBR2.out.below hb3 (by have:=HBR2.out.lt;omega));obtain⟨r,hrl,hrn,hn64⟩:=Sr.right_top HRT.out;generalize Sr.top code=n at *;obtain⟨cb,off,hAe,hcb,hcells⟩:=(HRD2.out.keep (w':=w3) fun q hq=>hb3.cell hq).2 (by have:=(List.getElem?_eq_some_iff.1 hrl).1;omega);have g4:=hcells _ _ (Dh code _ r hrl).2.2.2.2;rw[←Nat.add_assoc,hrn] at g4;subst hAe;obtain⟨A1,c1,hf1,_⟩:=Ae hL.og;obtain⟨A2,c2,hf2,_⟩:=Ae hL.cu;obtain⟨A3,c3,hf3,_⟩:=Ae hL.tq;obtain⟨A4,c4,hf4,_⟩:=Ae hL.en;obtain⟨A5,c5,hf5,_⟩:=Ae hL.cv;obtain⟨A6,c6,hf6,_⟩:=Ae hL.st;have HL:=Aa hL
 have HSF:Hid (∀ w7:World,SrL w7 sb L T→w7.cell? ⟨cb,off+(code.length-1)*5+4,none⟩=some (.int .i64 (n:Int))→((w7.cell? ⟨sb,64,none⟩=some (.slice A1 T.m.org.length c1)∧w7.cell? ⟨sb,65,none⟩=some (.slice A2 T.m.cur.length c2)∧w7.cell? ⟨sb,66,none⟩=some (.slice A3 T.m.touch.length c3)∧w7.cell? ⟨sb,67,none⟩=some (.slice A4 T.m.ends.length c4))∧w7.cell? ⟨sb,69,none⟩=some (.slice A5 T.m.cvt.length c5)∧w7.cell? ⟨sb,70,none⟩=some (.slice A6 T.m.store.length c6)∧w7.cell? ⟨cb,off+(code.length-1)*5+4,none⟩=some (.int .i64 (n:Int))∧w7.cell? ⟨sb,76,none⟩=some (.int .i64 (T.steps:Int)))):=Aa fun w7 h hc =>
  ⟨⟨hf1 ▸ h.c64,hf2 ▸ h.c65,hf3 ▸ h.c66,hf4 ▸ h.c67⟩,hf5 ▸ h.c69,hf6 ▸ h.c70,hc,h.c76⟩
 have hcl8:1≤code.length∧code.length≤80000:=by
  have:=HRT.out;unfold Sr.right at this;simp only[Bool.and_eq_true,decide_eq_true_eq] at this;exact this.1.1
 obtain⟨hcl8,hcl9⟩:=hcl8;have hw:IntKind.i64.wrap ((code.length:Int)-1)=((code.length-1:Nat):Int):=by rw[IntWalk.i64_in _ (by omega)];omega
 have hml:code.length-1<code.length:=by omega
 have hS:=HSF.out w3.drew hL.drew g4;have HG4:=Aa g4;have HRR:=Aa (show Reads w3.drew w3.heap.size 1 (some ⟨sb,0,none⟩) n (ints (T.regs.take n)) from⟨by rw[Bw,List.length_take,hL.ok.rl];omega,fun _=>⟨sb,0,rfl,hL.blk.lt,fun j u hu=>by
  have hj:j<n:=by
   have:=(List.getElem?_eq_some_iff.1 hu).1;rw[Bw,List.length_take] at this;omega
  unfold ints at hu;rw[List.getElem?_map,List.getElem?_take_of_lt hj,List.getElem?_eq_getElem (by rw[hL.ok.rl];omega)] at hu;rw[Nat.zero_add,show w3.drew.cell? ⟨sb,j,none⟩=w3.cell? ⟨sb,j,none⟩ from rfl,hL.reg (by omega),List.getD_eq_getElem?_getD,List.getElem?_eq_getElem (by rw[hL.ok.rl];omega)];exact hu⟩⟩)
 generalize code.length-1=m at *;have HF1:=Aa hf1;have HF2:=Aa hf2;have HF3:=Aa hf3;have HF4:=Aa hf4;have HF5:=Aa hf5;have HF6:=Aa hf6;clear hrl hrn hcells hf1 hf2 hf3 hf4 hf5 hf6 g4 hL hF hT;have hlb:=HL.out.blk.lt;have hsl:=Sl sb n hn64;go_wp2_with fail
 refine Aw (fun i=>!([23,29]:List Nat).contains i) (fun i=>([3,7,11,21,27]:List Nat).contains i) (fun i=>([23]:List Nat).contains i) [0,1,2,3,4,5,6,7,8,9,10,11,12,13,14,15,16,17,18,19,20,21,22,24,25,26,27,23,28,29] (fun wq:World=>((wq.cell? ⟨sb,64,none⟩=some (.slice A1 T.m.org.length c1)∧wq.cell? ⟨sb,65,none⟩=some (.slice A2 T.m.cur.length c2)∧wq.cell? ⟨sb,66,none⟩=some (.slice A3 T.m.touch.length c3)∧wq.cell? ⟨sb,67,none⟩=some (.slice A4 T.m.ends.length c4))∧wq.cell? ⟨sb,69,none⟩=some (.slice A5 T.m.cvt.length c5)∧wq.cell? ⟨sb,70,none⟩=some (.slice A6 T.m.store.length c6)∧wq.cell? ⟨cb,off+m*5+4,none⟩=some (.int .i64 (n:Int))∧wq.cell? ⟨sb,76,none⟩=some (.int .i64 (T.steps:Int)))) (by kernel_rfl) (by kernel_rfl) (by kernel_rfl) (by kernel_rfl) ?_
 iterate 27 (first|refine Ai ?_|refine An hS ?_)
 refine Aq fun K hK=>?_;go_simp
 refine(Ec w3.drew _ n 64 w3.heap.size _ HRR.out (Ez _) (by omega)).mono ?_;rintro e w5 ⟨v5,rfl,ho5,hg5⟩;have hS5:=HSF.out w5 (HL.out.drew.grow hg5) ((hg5.cell (by simp;omega) (fun x=>x)).trans HG4.out);have HG5:=Aa hg5;have HO5:=Aa ho5;obtain⟨A7,c7,hv7,_⟩:=Ae ho5;have hbr5:=HG5.out.blk (HBR3.out.drew) (fun x=>x);have b0:=hbr5.cell;have b1:=hbr5.frozen;have b2:=hbr5.lt;have HBR5:=Aa hbr5;clear hbr5;subst hv7;clear ho5 hg5;dsimp only;refine hK _ _ (fun _=>hS5) ?_;clear hK K
 iterate 1 (first|refine Ai ?_|refine An hS ?_)
 refine Aq fun K hK=>?_;go_simp
 refine Aj hK ?_;clear hK K;refine Ah ?_;have hL5:=HL.out.drew.grow HG5.out;have hbs:∀ {t:TypeId} {size k:Nat} {v:Value} {xs:List Value},w5.ownsRow 0 t size v k xs→(∀ g,v.ownBlock=some g→w1.heap.size≤g)→w5.ownsRow w.heap.size t size v k xs:=fun h1 h2=>Ph h1 (fun g e=>by have:=h2 g e;omega)
 have hsk:(Sr.told T n).stack.length=n:=by unfold Sr.told;simp only[List.length_reverse,List.length_take,HL.out.ok.rl];omega
 have hra:RanAt w.heap.size (Sr.told T n) w5 (.slice A1 T.m.org.length c1) (.slice A2 T.m.cur.length c2) (.slice A3 T.m.touch.length c3) (.slice A4 T.m.ends.length c4) (.slice A5 T.m.cvt.length c5) (.slice A6 T.m.store.length c6) (.slice A7 n c7):=by
  refine⟨?_,?_,?_,?_,?_,?_,?_⟩
  ·exact HF1.out ▸ hbs hL5.og (fun g e=>HSB.out g (.inr (.inl e)))
  ·exact HF2.out ▸ hbs hL5.cu (fun g e=>HSB.out g (.inr (.inr (.inl e))))
  ·exact HF3.out ▸ hbs hL5.tq (fun g e=>HSB.out g (.inr (.inr (.inr (.inl e)))))
  ·exact HF4.out ▸ hbs hL5.en (fun g e=>HSB.out g (.inr (.inr (.inr (.inr (.inl e))))))
  ·exact HF5.out ▸ hbs hL5.cv (fun g e=>HSB.out g (.inr (.inr (.inr (.inr (.inr (.inr (.inl e))))))))
  ·have h:=HF6.out ▸ hbs hL5.st (fun g e=>HSB.out g (.inr (.inr (.inr (.inr (.inr (.inr (.inr e))))))));have e:(32:Nat)=T.m.store.length:=HL.out.ok.m.stl.symm;rw[e];exact h
  ·rw[hsk];have:(Sr.told T n).stack.reverse=T.regs.take n:=by unfold Sr.told;simp
   rw[this];exact Bj HO5.out (by have:=HG5.out.size;show w.heap.size≤w3.heap.size;omega)
 have hbl:Below w.heap.size w w5:=HB3.out.drew.trans (Grow.below HG5.out (by show w.heap.size≤w3.heap.size;omega));obtain⟨hs0,hs1,hs2⟩:=Eo HBR5.out hra (show w.heap.size≤w.heap.size+1+1 by omega) hbl (.slice A1 T.m.org.length c1) (.slice A2 T.m.cur.length c2) (.slice A3 T.m.touch.length c3) (.slice A4 T.m.ends.length c4) (.slice A5 T.m.cvt.length c5) (.slice A6 T.m.store.length c6) (.slice A7 n c7) (.int .i64 (T.steps:Int)) (.int .i64 0) (.int .i64 0);simp only[List.setIfInBounds_toArray,List.set_cons_zero,List.set_cons_succ] at hs2;clear hS hsl hL5 hbs hsk hra hbl b0 b1 b2 HSF HRR HBR5 hlb hw hml;go_wp2_with fail
 obtain⟨W,hW⟩:∃ W,W=Hi w5 (w.heap.size+1+1) (.slice A1 T.m.org.length c1) (.slice A2 T.m.cur.length c2) (.slice A3 T.m.touch.length c3) (.slice A4 T.m.ends.length c4) (.slice A5 T.m.cvt.length c5) (.slice A6 T.m.store.length c6) (.slice A7 n c7) (.int .i64 (T.steps:Int)) (.int .i64 0) (.int .i64 0):=⟨_,rfl⟩;rw[←hW] at hs1 hs2
 try rw[←hW] at hs0
 unfold Hi at hW;rw[←hW];clear hW;have e1:=hs2.cell;have y0:=e1 0;have y1:=e1 1;have y2:=e1 2;have y3:=e1 3;have y4:=e1 4;have y5:=e1 5;have y6:=e1 6;have y7:=e1 7;have y8:=e1 8;have y9:=e1 9;simp only[List.getElem?_toArray,List.getElem?_cons_zero,List.getElem?_cons_succ] at y0 y1 y2 y3 y4 y5 y6 y7 y8 y9;refine bodyPost_ret (v:=.agg #[.slice A1 T.m.org.length c1,.slice A2 T.m.cur.length c2,.slice A3 T.m.touch.length c3,.slice A4 T.m.ends.length c4,.slice A5 T.m.cvt.length c5,.slice A6 T.m.store.length c6,.slice A7 n c7,.int .i64 (T.steps:Int),.int .i64 0,.int .i64 0]) (by simp[results,Tryz.results17,go_sem,y0,y1,y2,y3,y4,y5,y6,y7,y8,y9]) rfl ?_;exact⟨_,_,_,_,_,_,_,rfl,hs0,hs1⟩
end Go.Proofs.YtnhebmgibiomnaaGreat

/- Parts of the proof, joined: McC SrF. -/
import Derived.Test.YtnhebmgibiomnaaGreatPb7
set_option linter.unusedVariables false
set_option linter.unusedSimpArgs false
set_option maxRecDepth 100000
set_option maxHeartbeats 8000000
namespace Go.Proofs.YtnhebmgibiomnaaGreat
open Go.RowKit Mc
theorem Ea (w:World) (mb:Nat) (O:Nat→Prop) (L:Lay) (s:St) (h:MaL w mb O L s) (p:Int) :
  Calls Tryz.prog 252 #[.pointer (some ⟨mb,0,none⟩),.int .i64 p] w fun e w'=>e=.returned (.bool (has s p))∧w=w':=by
 obtain⟨A,c,hv,hc1,hc2⟩:=h.cu.form;have c3:=h.blk.cell 3;rw[h.c.c3,hv] at c3;have hcl:=h.ok.curl;have HD:Hid (has s p=decide (0≤p∧p<s.cur.length)):=Aa rfl;clear h hv hc1 hc2;by_cases h0:0≤p
 ·by_cases h1:p<s.cur.length
  ·go_enter Tryz.func252,Tryz.ntmps252;go_wp2;go_ret;exact⟨Bm (by rw[HD.out];simp;omega),rfl⟩
  ·go_enter Tryz.func252,Tryz.ntmps252;go_wp2;go_ret;exact⟨Bm (by rw[HD.out];simp;omega),rfl⟩
 ·go_enter Tryz.func252,Tryz.ntmps252;go_wp2;go_ret;exact⟨Bm (by rw[HD.out];simp;omega),rfl⟩
theorem Cp {l:List (Int×Int)} {i:Nat} {v:Int×Int} (h:l[i]?=some v) (axis:Int):(pts l)[i*2+(if axis=1 then 1 else 0)]?=some (.int .i64 (Az axis v)):=by
 have:=Dk h;unfold Az;split
 ·rw[Nat.mul_comm];exact this.2
 ·rw[Nat.mul_comm];exact this.1
def Jm (s:St) (l:List (Int×Int)) (x:Int):Int:=if has s x then Az s.look (l.getD x.toNat (0,0)) else 0
theorem Wu {s:St} {l:List (Int×Int)} {i:Nat} {v:Int×Int} (h:has s i=true) (hv:l[i]?=some v):Jm s l i=Az s.look v:=by
 unfold Jm;rw[if_pos h,Int.toNat_natCast,List.getD_eq_getElem?_getD,hv];rfl
theorem Zax {s:St} {l:List (Int×Int)} {x:Int} (h:¬ has s x=true):Jm s l x=0:=by unfold Jm;rw[if_neg h]
theorem Ml (w:World) (mb:Nat) (O:Nat→Prop) (L:Lay) (s:St) (h:MaL w mb O L s) (x:Int) (r:List Int) (hs:s.stack=x::r) (A:Option Addr) (l:List (Int×Int)) (c:Nat) (hll:l.length=s.cur.length)
  (hrow:Row w O 76 2 (.slice A l.length c) l.length (pts l)) :
  Calls Tryz.prog 205 #[.pointer (some ⟨mb,0,none⟩),.slice A l.length c] w (MPost w mb O (push (Jm s l x) { s with stack:=r })):=by
 have H:=Aa h;have HS:=Aa hs;have hl:=h.ok.slen;rw[hs,List.length_cons] at hl;have hcl:=h.ok.curl;rw[←hll] at hcl;have hlk:=h.ok.look;have HR:=Aa hrow;have HLL:=Aa hll;clear h hs hrow hll;by_cases hx:has s x=true
 ·have HX:=Aa hx;have hx':=hx;simp only[has,decide_eq_true_eq] at hx';rw[←HLL.out] at hx';obtain⟨i,rfl⟩:∃ i:Nat,x=i:=⟨x.toNat,by omega⟩;have hil:i<l.length:=by omega
  obtain⟨g,c',hv,_,_,hg,_⟩:=HR.out.at_ (by omega)
  injection hv with hv _ hc
  subst hv hc;obtain⟨v,hv⟩:∃ v,l[i]?=some v:=⟨_,List.getElem?_eq_getElem hil⟩;have HV:=Aa hv;clear hx hx' hv hg;go_enter Tryz.func205,Tryz.ntmps205;go_wp2_with fail
  refine(Ce w mb O L s H.out _ r HS.out _).mono ?_;rintro e w' ⟨rfl,ht,hb1⟩;obtain⟨L',hM⟩:=ht.ma;have HM:=Aa hM;have HT:=Aa ht;have hlt:=ht.lt;have b1:=hb1.cell 0;have b1l:=hb1.lt;have b1f:=hb1.frozen 0;simp only[List.getElem?_toArray,List.getElem?_cons_zero] at b1;clear ht hM hb1;go_wp2_with fail
  refine(Ea w' mb O L' _ HM.out _).mono ?_;rintro e w5 ⟨rfl,rfl⟩;have hh:has { s with stack:=r } (i:Int)=true:=HX.out;rw[hh];clear hh;go_wp2_with fail
  have c42:=HM.out.blk.cell 42;rw[HM.out.c.c42] at c42;dsimp only at c42;obtain⟨g2,c2,hv2,_,_,hO,hgl,hc,hf⟩:=(HT.out.row (by decide) HR.out).at_ (by omega)
  injection hv2 with hv2
  injection hv2 with hv2
  injection hv2 with hv2
  subst hv2;have d0:=hc _ _ (Cp HV.out s.look);clear hc hf;generalize hd:(if s.look=1 then 1 else 0:Nat)=d at d0;have HD:=Aa hd;clear hd;have hS:w'.drew.cell? ⟨mb,42,none⟩=some (.int .i64 s.look)∧w'.drew.cell? ⟨w.heap.size,0,none⟩=some (.int .i64 i)∧w'.drew.cell? ⟨g,i*2+d,none⟩=some (.int .i64 (Az s.look v)):=⟨c42,b1,d0⟩;refine Bl [7] [1,6,9] [] 11 (fun w':World=>w'.cell? ⟨mb,42,none⟩=some (.int .i64 s.look)∧w'.cell? ⟨w.heap.size,0,none⟩=some (.int .i64 i)∧w'.cell? ⟨g,i*2+d,none⟩=some (.int .i64 (Az s.look v))) ?_;refine Ai ?_;refine An hS ?_
  iterate 4 (refine Ai ?_)
  refine An hS ?_;refine Aq fun K hK=>?_;go_simp
  refine(Bn _ _ _ _).mono ?_;rintro e w5 ⟨rfl,rfl⟩;rw[HD.out];dsimp only;refine Aj hK ?_;clear hK K;refine Ai ?_;refine An hS ?_;refine Ai ?_;refine Ah ?_;have HMD:=Aa HM.out.drew;have HTF:=Aa HT.out.fr.drew;go_wp2_with fail
  refine(Cj w'.drew mb O L' _ HMD.out _ (by simp only;omega)).mono ?_;intro e w9 hp;have HP:=Aa (hp.from_ HTF.out);obtain⟨rfl,_⟩:=hp;go_wp2;go_end0;rw[Wu HX.out HV.out];exact HP.out
 ·have HX:=Aa hx;have hx':has s x=false:=by simpa using hx
  have HX':=Aa hx';clear hx hx';go_enter Tryz.func205,Tryz.ntmps205;go_wp2_with fail
  refine(Ce w mb O L s H.out _ r HS.out _).mono ?_;rintro e w' ⟨rfl,ht,hb1⟩;obtain⟨L',hM⟩:=ht.ma;have HM:=Aa hM;have HT:=Aa ht;have hlt:=ht.lt;have b1:=hb1.cell 0;have b1l:=hb1.lt;have b1f:=hb1.frozen 0;simp only[List.getElem?_toArray,List.getElem?_cons_zero] at b1;clear ht hM hb1;go_wp2_with fail
  refine(Ea w' mb O L' _ HM.out _).mono ?_;rintro e w5 ⟨rfl,rfl⟩;have hh:has { s with stack:=r } x=false:=HX'.out;rw[hh];clear hh;go_wp2_with fail
  refine(Cj w' mb O L' _ HM.out _ (by simp only;omega)).mono ?_;intro e w9 hp;have HP:=Aa (hp.from_ HT.out.fr);obtain⟨rfl,_⟩:=hp;go_wp2;go_end0;rw[Zax HX.out];exact HP.out
end Go.Proofs.YtnhebmgibiomnaaGreat
namespace Go.Proofs.YtnhebmgibiomnaaGreat
open Go.RowKit Mc
theorem Zbd (w:World) (mb:Nat) (O:Nat→Prop) (L:Lay) (s:St) (h:MaL w mb O L s) (a x:Int) (r:List Int) (hs:s.stack=x::r) :
  Calls Tryz.prog 204 #[.pointer (some ⟨mb,0,none⟩),.int .i64 a] w (MPost w mb O (push (Jm s s.cur x) { s with stack:=r })):=by
 obtain⟨A,c,hv,hc1,hc2⟩:=h.cu.form;have c3:=h.blk.cell 3;rw[h.c.c3,hv] at c3;have hrow:=h.cu;rw[hv] at hrow;have HC:=Aa (Ml w mb O L s h x r hs A s.cur c rfl hrow);clear h hs hv hc1 hc2 hrow;go_enter Tryz.func204,Tryz.ntmps204;go_wp2_with fail
 refine HC.out.mono ?_;intro e w9 hp;have HP:=Aa hp;obtain⟨rfl,_⟩:=hp;go_wp2;go_end0;exact HP.out
theorem Zaj (w:World) (mb:Nat) (O:Nat→Prop) (L:Lay) (s:St) (h:MaL w mb O L s) (a x:Int) (r:List Int) (hs:s.stack=x::r) :
  Calls Tryz.prog 206 #[.pointer (some ⟨mb,0,none⟩),.int .i64 a] w (MPost w mb O (push (Jm s s.org x) { s with stack:=r })):=by
 obtain⟨A,c,hv,hc1,hc2⟩:=h.og.form;have c2:=h.blk.cell 2;rw[h.c.c2,hv] at c2;have hrow:=h.og;rw[hv] at hrow;have HC:=Aa (Ml w mb O L s h x r hs A s.org c h.ok.orgl hrow);clear h hs hv hc1 hc2 hrow;go_enter Tryz.func206,Tryz.ntmps206;go_wp2_with fail
 refine HC.out.mono ?_;intro e w9 hp;have HP:=Aa hp;obtain⟨rfl,_⟩:=hp;go_wp2;go_end0;exact HP.out
theorem Vu:∀ {l:List (Int×Int)} {i:Nat} {x:Int×Int} (_:l[i]?=some x) (axis v:Int),pts (l.set i (to_ axis x v))=(pts l).set (i*2+(if axis=1 then 1 else 0)) (.int .i64 (k32 v))
 | a::l,0,x,h,axis,v=>by
  simp only[List.getElem?_cons_zero,Option.some.injEq] at h;subst h;unfold to_;split <;> simp[pts]
 | a::l,i+1,x,h,axis,v=>by
  have ih:=Vu (l:=l) (i:=i) (x:=x) h axis v;have:(pts (a::l)).set ((i+1)*2+(if axis=1 then 1 else 0)) (.int .i64 (k32 v))=.int .i64 a.1::.int .i64 a.2::(pts l).set (i*2+(if axis=1 then 1 else 0)) (.int .i64 (k32 v)):=by
   rw[show (i+1)*2+(if axis=1 then 1 else 0)=(i*2+(if axis=1 then 1 else 0))+1+1 by omega];rfl
  rw[this,←ih];rfl
 | [],i,x,h,_,_=>by simp at h
section
variable {w w' : World} {mb : Nat} {O : Nat → Prop} {L : Lay} {s : St}
theorem Mc.Ok.cur_ (h:Ok s) {l:List (Int×Int)} (h1:∀ p∈l,K32 p.1∧K32 p.2) (h2:l.length=s.cur.length):Ok { s with cur:=l } :=
 ⟨h.stack,h.slen,h.cvt,h.store,h.stl,h1,h.org,by rw[h.orgl];exact h2.symm,h.touch,by rw[h.tl];exact h2.symm,h.size,h.look,h.move,h.mode,h.peak,h.frames,h.flen,h.funcs,h.fnl,fun c hc=>by have:=h.cont c hc;simp only[h2];exact this,h.contl,by rw[h2];exact h.curl,h.cvl,h.endl⟩
theorem Mc.Ok.touch_ (h:Ok s) {l:List Int} (h1:∀ t∈l,0≤t∧t≤3) (h2:l.length=s.touch.length):Ok { s with touch:=l } :=
 ⟨h.stack,h.slen,h.cvt,h.store,h.stl,h.cur,h.org,h.orgl,h1,by rw[←h.tl];exact h2,h.size,h.look,h.move,h.mode,h.peak,h.frames,h.flen,h.funcs,h.fnl,h.cont,h.contl,h.curl,h.cvl,h.endl⟩
theorem to_k (axis:Int) (p:Int×Int) (v:Int) (h:K32 p.1∧K32 p.2):K32 (to_ axis p v).1∧K32 (to_ axis p v).2:=by
 unfold to_;split
 ·exact⟨h.1,Db v⟩
 ·exact⟨Db v,h.2⟩
theorem MaL.setCu (h:MaL w mb O L s) {g m c:Nat} (hv:L.cu=.slice (some ⟨g,0,none⟩) m c) {i:Nat} {x:Int×Int} (hi:s.cur[i]?=some x) (axis v:Int):MaL (w.setCell ⟨g,i*2+(if axis=1 then 1 else 0),none⟩ (.int .i64 (k32 v))) mb O L { s with cur:=s.cur.set i (to_ axis x v) } := by
 have hob:L.cu.ownBlock=some g:=by rw[hv];rfl
 have hg:g≠mb:=h.cu.ne_blk h.blk (by decide) hob;have hil:=(List.getElem?_eq_some_iff.1 hi).1;refine h.cur_ (by simp) ?_ (Below.heap_setCell _ _ _ _ hg.symm) (fun k _ _ hk=>Below.heap_setCell _ _ _ _ (fun e=>hk (by rw[hob,e]))) (fun _ h=>h) (fun k hk=>by have:=h.olt k hk;simpa [World.setCell] using this) (h.ok.cur_ (fun p hp=>?_) (by simp))
 ·rw[Vu hi];refine h.cu.set_ hob (by rw[Fj];split <;> omega) _
 ·rcases List.mem_or_eq_of_mem_set hp with hp|rfl
  ·exact h.ok.cur p hp
  ·exact to_k _ _ _ (h.ok.cur x (List.mem_of_getElem? hi))
theorem MaL.setTo (h:MaL w mb O L s) {g m c:Nat} (hv:L.to=.slice (some ⟨g,0,none⟩) m c) {i:Nat} (hi:i<s.touch.length) {t:Int} (ht:0≤t∧t≤3):MaL (w.setCell ⟨g,i,none⟩ (.int .i64 t)) mb O L { s with touch:=s.touch.set i t } := by
 have hob:L.to.ownBlock=some g:=by rw[hv];rfl
 have hg:g≠mb:=h.to.ne_blk h.blk (by decide) hob;refine h.touch_ (by simp) ?_ (Below.heap_setCell _ _ _ _ hg.symm) (fun k _ _ hk=>Below.heap_setCell _ _ _ _ (fun e=>hk (by rw[hob,e]))) (fun _ h=>h) (fun k hk=>by have:=h.olt k hk;simpa [World.setCell] using this) (h.ok.touch_ (fun p hp=>?_) (by simp))
 ·rw[Dr];exact h.to.set_ hob (by rw[Bw];exact hi) _
 ·rcases List.mem_or_eq_of_mem_set hp with hp|rfl
  ·exact h.ok.touch p hp
  ·exact ht
end
def Uf (axis t:Int):Int:=if bit axis t then t else t+(axis+1)
theorem Uq {axis t:Int} (ha:0≤axis∧axis≤1) (ht:0≤t∧t≤3):0≤Uf axis t∧Uf axis t≤3:=by
 obtain⟨h1,h2⟩:=ha;obtain⟨h3,h4⟩:=ht;have e1:axis=0∨axis=1:=by omega
 have e2:t=0∨t=1∨t=2∨t=3:=by omega
 rcases e1 with rfl|rfl <;> rcases e2 with rfl|rfl|rfl|rfl <;> decide
theorem Ob {axis t:Int} (ha:0≤axis∧axis≤1) (ht:0≤t∧t≤3):bits BinOp.or IntKind.i64 t (axis+1)=Uf axis t:=by
 obtain⟨h1,h2⟩:=ha;obtain⟨h3,h4⟩:=ht;have e1:axis=0∨axis=1:=by omega
 have e2:t=0∨t=1∨t=2∨t=3:=by omega
 rcases e1 with rfl|rfl <;> rcases e2 with rfl|rfl|rfl|rfl <;> rfl
theorem Oy (w:World) (mb:Nat) (O:Nat→Prop) (L:Lay) (s:St) (h:MaL w mb O L s) (p:Nat) (axis v:Int) (hp:p<s.cur.length) (ha:0≤axis∧axis≤1) :
  Calls Tryz.prog 254 #[.pointer (some ⟨mb,0,none⟩),.int .i64 p,.int .i64 axis,.int .i64 v] w (MPost w mb O (goes s p axis v)):=by
 obtain⟨x,hx⟩:∃ x,s.cur[p]?=some x:=⟨_,List.getElem?_eq_getElem hp⟩;have hpt:p<s.touch.length:=by rw[h.ok.tl];exact hp
 obtain⟨t,ht⟩:∃ t,s.touch[p]?=some t:=⟨_,List.getElem?_eq_getElem hpt⟩;obtain⟨g,c,hv,hc1,hc2,hg,hgl,hcells,hfz⟩:=h.cu.at_ (by omega);have d0:=hcells _ _ (Cp hx axis);have f0:=hfz (p*2+(if axis=1 then 1 else 0));have c3:=h.blk.cell 3;rw[h.c.c3,hv] at c3;obtain⟨gt,ct,hvt,hct1,hct2,hgt,hgtl,htcells,htfz⟩:=h.to.at_ (by omega);have t0:=htcells _ _ (Bf ht);have ft:=htfz p;have c4:=h.blk.cell 4;rw[h.c.c4,hvt] at c4;have hne:gt≠g:=fun e=>h.to.apart h.cu (by decide) g (by rw[hvt,e];rfl) (by rw[hv];rfl)
 have hmg:mb≠g:=fun e=>h.cu.ne_blk h.blk (by decide) (show L.cu.ownBlock=some g by rw[hv];rfl) e.symm
 have h1:=h.setCu hv hx axis v;have h2:=h1.drew.setTo hvt hpt (Uq ha (h.ok.touch t (List.mem_of_getElem? ht)));have hf:Fr O w ((w.setCell ⟨g,p*2+(if axis=1 then 1 else 0),none⟩ (.int .i64 (k32 v))).drew.setCell ⟨gt,p,none⟩ (.int .i64 (Uf axis t))):=((Fr.refl O w).setCell (.inl hg) _).drew.setCell (.inl hgt) _;have hq:{ s with cur:=s.cur.set p (to_ axis x v),touch:=s.touch.set p (Uf axis t) } = goes s p axis v:=by
  unfold goes Uf;rw[List.getD_eq_getElem?_getD,List.getD_eq_getElem?_getD,hx,ht];rfl
 have HP:Hid (MPost w mb O (goes s p axis v) (.returned (.tuple #[])) ((w.setCell ⟨g,p*2+(if axis=1 then 1 else 0),none⟩ (.int .i64 (k32 v))).drew.setCell ⟨gt,p,none⟩ (.int .i64 (Uf axis t)))):=Aa (by rw[←hq];exact .here h2 hf);have hto:=h.ok.touch t (List.mem_of_getElem? ht);have hcl:=h.ok.curl;have hlt:=h.ok.tl;have hptl:s.touch.length≤1000000:=by omega
 have _hmbl:=h.blk.lt;clear h h1 h2 hf hq hcells hfz htcells htfz hv hvt hx ht hlt hc2 hct2;generalize hd:(if axis=1 then 1 else 0:Nat)=d at *;have HD:=Aa hd;clear hd;go_enter Tryz.func254,Tryz.ntmps254;go_wp2_with fail
 refine(Bn _ _ _ _).mono ?_;rintro e w5 ⟨rfl,rfl⟩;rw[HD.out];go_wp2_with fail
 refine(Ga _ _).mono ?_;rintro e w5 ⟨rfl,rfl⟩;go_wp2_with fail
 have hS:(w.setCell ⟨g,p*2+d,none⟩ (.int .i64 (k32 v))).drew.cell? ⟨mb,4,none⟩=some (.slice (some ⟨gt,0,none⟩) s.touch.length ct)∧(w.setCell ⟨g,p*2+d,none⟩ (.int .i64 (k32 v))).drew.cell? ⟨gt,p,none⟩=some (.int .i64 t) :=
  ⟨(World.cell?_setCell_other _ _ _ _ (fun e=>by injection e with e;omega)).trans c4,(World.cell?_setCell_other _ _ _ _ (fun e=>by injection e with e;omega)).trans t0⟩
 have hF:(w.setCell ⟨g,p*2+d,none⟩ (.int .i64 (k32 v))).drew.frozen? ⟨gt,p,none⟩=false:=((Fr.refl (fun k=>k=g) w).setCell (p:=⟨g,p*2+d,none⟩) (.inl rfl) _).drew.frozen (p:=⟨gt,p,none⟩) hgtl hne |>.trans ft;clear d0 f0 c3 c4 t0 ft;generalize (w.setCell ⟨g,p*2+d,none⟩ (.int .i64 (k32 v)))=W at *;have hS1:=hS.1;have hS2:=hS.2;refine Bl [9,12] [4,7] [9] 13 (fun w':World=>w'.cell? ⟨mb,4,none⟩=some (.slice (some ⟨gt,0,none⟩) s.touch.length ct)∧w'.cell? ⟨gt,p,none⟩=some (.int .i64 t)) ?_
 iterate 4 (refine Ai ?_)
 refine An hS ?_;refine Ai ?_;refine Ai ?_;refine An hS ?_;refine Ai ?_;refine Aq fun K hK=>?_;go_simp
 refine(Iu _ _ ha.1 ha.2).mono ?_;rintro e w5 ⟨rfl,rfl⟩;dsimp only;refine hK _ _ (fun _=>hS) ?_;clear hK K;refine Ai ?_;refine Ai ?_;refine Aq fun K hK=>?_;go_simp
 rw[Ob ha hto];refine Aj hK ?_;clear hK K;refine Ah ?_;go_wp2;go_end0;exact HP.out
section
variable {w w' : World} {mb : Nat} {O : Nat → Prop} {L : Lay} {s : St}
theorem MaL.pt (h:MaL w mb O L s) {p:Nat} (hp:p<s.cur.length):∃ g c x,L.cu=.slice (some ⟨g,0,none⟩) s.cur.length c∧s.cur.length≤c∧s.cur[p]?=some x∧g<w.heap.size∧∀ axis,w.cell? ⟨g,p*2+(if axis=1 then 1 else 0),none⟩=some (.int .i64 (Az axis x)):=by
 obtain⟨x,hx⟩:∃ x,s.cur[p]?=some x:=⟨_,List.getElem?_eq_getElem hp⟩;obtain⟨g,c,hv,hc1,hc2,hg,hgl,hcells,hfz⟩:=h.cu.at_ (by omega);exact⟨g,c,x,hv,hc1,hx,hgl,fun axis=>hcells _ _ (Cp hx axis)⟩
end
def Nj (s:St) (r:List Int) (p:Int) (d:Int):St:=if has s p then goes { s with stack:=r } p.toNat s.move (Az s.move (s.cur.getD p.toNat (0,0))+d) else { s with stack:=r }
theorem Zap {s:St} {r:List Int} {p d:Int} (h:¬ has s p=true):Nj s r p d = { s with stack:=r } := by unfold Nj;rw[if_neg h]
theorem Wm {s:St} {r:List Int} {i:Nat} {d:Int} {x:Int×Int} (h:has s i=true) (hx:s.cur[i]?=some x):Nj s r i d=goes { s with stack:=r } i s.move (Az s.move x+d):=by
 unfold Nj;rw[if_pos h,Int.toNat_natCast,Bs hx]
theorem Uz (w:World) (mb:Nat) (O:Nat→Prop) (L:Lay) (s:St) (h:MaL w mb O L s) (x y:Int) (r:List Int) (hs:s.stack=y::x::r) :
  Calls Tryz.prog 208 #[.pointer (some ⟨mb,0,none⟩)] w (MPost w mb O (Nj s r x y)):=by
 have H:=Aa h;have HS:=Aa hs;have hyk:=h.ok.stack y (by rw[hs];simp);unfold K32 at hyk;have hcl:=h.ok.curl;by_cases hx:has s x=true
 ·have HX:=Aa hx;have hx':=hx;simp only[has,decide_eq_true_eq] at hx';obtain⟨i,rfl⟩:∃ i:Nat,x=i:=⟨x.toNat,by omega⟩;have hil:i<s.cur.length:=by omega
  obtain⟨pt,hpt⟩:∃ x,s.cur[i]?=some x:=⟨_,List.getElem?_eq_getElem hil⟩;have hk : -2147483648≤Az s.move pt∧Az s.move pt≤2147483647:=by
   have:=h.ok.cur pt (List.mem_of_getElem? hpt);unfold Az;split
   ·exact this.2
   ·exact this.1
  have HPT:=Aa hpt;have hmv:=h.ok.move;clear h hs hx hx' hpt;go_enter Tryz.func208,Tryz.ntmps208;go_wp2_with fail
  refine(Cd w mb O L s H.out _ y r HS.out _ _).mono ?_;rintro e w' ⟨rfl,ht,hb1,hb2⟩;obtain⟨L',hM⟩:=ht.ma;have HM:=Aa hM;have HT:=Aa ht;have hlt:=ht.lt;have b1:=hb1.cell 0;have b1l:=hb1.lt;have b1f:=hb1.frozen 0;have b2:=hb2.cell 0;have b2l:=hb2.lt;have b2f:=hb2.frozen 0;simp only[List.getElem?_toArray,List.getElem?_cons_zero] at b1 b2;clear ht hM hb1 hb2;go_wp2_with fail
  refine(Ea w' mb O L' _ HM.out _).mono ?_;rintro e w5 ⟨rfl,rfl⟩;have hh:has { s with stack:=r } (i:Int)=true:=HX.out;rw[hh];clear hh;go_wp2_with fail
  have c43:=HM.out.blk.cell 43;rw[HM.out.c.c43] at c43;dsimp only at c43;obtain⟨g,c,x',hv,hc1,hx',hgl,hcell⟩:=HM.out.pt (p:=i) hil;dsimp only at hx' hv hc1;obtain rfl:x'=pt:=by rw[HPT.out] at hx';injection hx' with hx';exact hx'.symm
  have c3:=HM.out.blk.cell 3;rw[HM.out.c.c3,hv] at c3;have d0:=hcell s.move;clear hcell hx' hv;generalize hd:(if s.move=1 then 1 else 0:Nat)=d at d0;have HD:=Aa hd;clear hd;have hS:w'.drew.cell? ⟨mb,43,none⟩=some (.int .i64 s.move)∧w'.drew.cell? ⟨mb,3,none⟩=some (.slice (some ⟨g,0,none⟩) s.cur.length c)∧w'.drew.cell? ⟨w.heap.size,0,none⟩=some (.int .i64 i)∧w'.drew.cell? ⟨w.heap.size+1,0,none⟩=some (.int .i64 y)∧w'.drew.cell? ⟨g,i*2+d,none⟩=some (.int .i64 (Az s.move x')):=⟨c43,c3,b1,b2,d0⟩;refine Aw (fun i=>!([17,22]:List Nat).contains i) (fun i=>([1,5,10,11,16,19,20]:List Nat).contains i) (fun i=>([17]:List Nat).contains i) [0,1,2,3,4,5,6,7,8,9,10,11,12,13,14,15,16,20,17,18,19,21,22] (fun w':World=>w'.cell? ⟨mb,43,none⟩=some (.int .i64 s.move)∧w'.cell? ⟨mb,3,none⟩=some (.slice (some ⟨g,0,none⟩) s.cur.length c)∧w'.cell? ⟨w.heap.size,0,none⟩=some (.int .i64 i)∧w'.cell? ⟨w.heap.size+1,0,none⟩=some (.int .i64 y)∧w'.cell? ⟨g,i*2+d,none⟩=some (.int .i64 (Az s.move x'))) (by kernel_rfl) (by kernel_rfl) (by kernel_rfl) (by kernel_rfl) ?_;refine Ai ?_;refine An hS ?_
  iterate 3 (refine Ai ?_)
  refine An hS ?_
  iterate 4 (refine Ai ?_)
  refine An hS ?_;refine An hS ?_
  iterate 4 (refine Ai ?_)
  refine An hS ?_;refine An hS ?_;refine Aq fun K hK=>?_;go_simp
  refine(Bn _ _ _ _).mono ?_;rintro e w5 ⟨rfl,rfl⟩;rw[HD.out];dsimp only;refine hK _ _ (fun _=>hS) ?_;clear hK K;refine Ai ?_;refine An hS ?_;refine Ai ?_;refine Aq fun K hK=>?_;go_simp
  refine(Oy w'.drew mb O L' _ HM.out.drew i s.move _ hil hmv).mono ?_;intro e w9 hp;have HP:=Aa (hp.from_ HT.out.fr.drew);obtain⟨rfl,_⟩:=hp;dsimp only;refine Aj hK ?_;clear hK K;refine Ah ?_;go_wp2;go_end0;rw[Wm HX.out HPT.out];have hW:=HP.out;rw[IntWalk.i64_in _ (by omega)] at hW;exact hW
 ·have HX:=Aa hx;have hx':has s x=false:=by simpa using hx
  have HX':=Aa hx';clear hx hx' h hs;go_enter Tryz.func208,Tryz.ntmps208;go_wp2_with fail
  refine(Cd w mb O L s H.out x y r HS.out _ _).mono ?_;rintro e w' ⟨rfl,ht,hb1,hb2⟩;obtain⟨L',hM⟩:=ht.ma;have HM:=Aa hM;have HT:=Aa ht;have hlt:=ht.lt;have b1:=hb1.cell 0;have b1l:=hb1.lt;have b1f:=hb1.frozen 0;have b2:=hb2.cell 0;have b2l:=hb2.lt;have b2f:=hb2.frozen 0;simp only[List.getElem?_toArray,List.getElem?_cons_zero] at b1 b2;clear ht hM hb1 hb2;go_wp2_with fail
  refine(Ea w' mb O L' _ HM.out _).mono ?_;rintro e w5 ⟨rfl,rfl⟩;have hh:has { s with stack:=r } x=false:=HX'.out;rw[hh];clear hh;go_wp2;go_end0;rw[Zap HX.out];exact .here HM.out HT.out.fr
end Go.Proofs.YtnhebmgibiomnaaGreat
namespace Go.Proofs.YtnhebmgibiomnaaGreat
open Go.RowKit Mc
def Zbv (s:St) (r:List Int) (p v:Int):St:=if s.look=s.move∧has s p then goes { s with stack:=r } p.toNat s.move v else { s with stack:=r }
theorem Vb {s:St} {r:List Int} {p v:Int} (h:¬ (s.look=s.move∧has s p=true)):Zbv s r p v = { s with stack:=r } := by unfold Zbv;rw[if_neg h]
theorem Zy {s:St} {r:List Int} {i:Nat} {v:Int} (h:s.look=s.move) (h':has s i=true):Zbv s r i v=goes { s with stack:=r } i s.move v:=by
 unfold Zbv;rw[if_pos ⟨h,h'⟩,Int.toNat_natCast]
def Ie (s:St) (r:List Int) (p q:Int):St:=if s.look=s.move∧has s p∧has s q then goes { s with stack:=r } q.toNat s.move (Az s.move (s.cur.getD p.toNat (0,0))) else { s with stack:=r }
theorem Kd {s:St} {r:List Int} {p q:Int} (h:¬ (s.look=s.move∧has s p=true∧has s q=true)):Ie s r p q = { s with stack:=r } := by unfold Ie;rw[if_neg h]
theorem Uc {s:St} {r:List Int} {i j:Nat} {x:Int×Int} (h:s.look=s.move) (h':has s i=true) (h'':has s j=true) (hx:s.cur[i]?=some x):Ie s r i j=goes { s with stack:=r } j s.move (Az s.move x):=by
 unfold Ie;rw[if_pos ⟨h,h',h''⟩,Int.toNat_natCast,Int.toNat_natCast,Bs hx]
theorem Fq {s:St} {x:Int} (h:has s x=true):∃ i:Nat,x=i∧i<s.cur.length:=by
 simp only[has,decide_eq_true_eq] at h;exact⟨x.toNat,by omega,by omega⟩
theorem Zel (w:World) (mb:Nat) (O:Nat→Prop) (L:Lay) (s:St) (h:MaL w mb O L s) (x y:Int) (r:List Int) (hs:s.stack=y::x::r) :
  Calls Tryz.prog 210 #[.pointer (some ⟨mb,0,none⟩)] w (MPost w mb O (Zbv s r x y)):=by
 have H:=Aa h;have HS:=Aa hs;have hmv:=h.ok.move;have hcl:=h.ok.curl;clear h hs;by_cases hlm:s.look=s.move
 ·have HLM:=Aa hlm;clear hlm;by_cases hx:has s x=true
  ·have HX:=Aa hx;obtain⟨i,rfl,hil⟩:=Fq hx;clear hx;go_enter Tryz.func210,Tryz.ntmps210;go_wp2_with fail
   refine(Cd w mb O L s H.out _ y r HS.out _ _).mono ?_;rintro e w' ⟨rfl,ht,hb1,hb2⟩;obtain⟨L',hM⟩:=ht.ma;have HM:=Aa hM;have HT:=Aa ht;have hlt:=ht.lt;have b1:=hb1.cell 0;have b1l:=hb1.lt;have b1f:=hb1.frozen 0;have b2:=hb2.cell 0;have b2l:=hb2.lt;have b2f:=hb2.frozen 0;simp only[List.getElem?_toArray,List.getElem?_cons_zero] at b1 b2;clear ht hM hb1 hb2;go_wp2_with fail
   have c42:=HM.out.blk.cell 42;rw[HM.out.c.c42] at c42;dsimp only at c42;have c43:=HM.out.blk.cell 43;rw[HM.out.c.c43] at c43;dsimp only at c43;rw[HLM.out] at c42;have hS:w'.drew.cell? ⟨mb,42,none⟩=some (.int .i64 s.move)∧w'.drew.cell? ⟨mb,43,none⟩=some (.int .i64 s.move)∧w'.drew.cell? ⟨w.heap.size,0,none⟩=some (.int .i64 i):=⟨c42,c43,b1⟩;refine Bl [12] [3,7,11] [] 14 (fun w':World=>w'.cell? ⟨mb,42,none⟩=some (.int .i64 s.move)∧w'.cell? ⟨mb,43,none⟩=some (.int .i64 s.move)∧w'.cell? ⟨w.heap.size,0,none⟩=some (.int .i64 i)) ?_
   iterate 3 (refine Ai ?_)
   refine An hS ?_
   iterate 3 (refine Ai ?_)
   refine An hS ?_
   iterate 3 (refine Ai ?_)
   go_simp;refine An hS ?_;refine Aq fun K hK=>?_;go_simp
   refine(Ea w'.drew mb O L' _ HM.out.drew _).mono ?_;rintro e w5 ⟨rfl,rfl⟩;have hh:has { s with stack:=r } (i:Int)=true:=HX.out;rw[hh];clear hh;dsimp only;refine Aj hK ?_;clear hK K;refine Ai ?_;refine Ah ?_;have HM2:=Aa HM.out.drew;have HT2:=Aa HT.out.fr.drew;have e1:w'.drew.cell? ⟨w.heap.size,0,none⟩=some (.int .i64 i):=b1;have e2:w'.drew.cell? ⟨w.heap.size+1,0,none⟩=some (.int .i64 y):=b2;have e3:w'.drew.cell? ⟨mb,43,none⟩=some (.int .i64 s.move):=c43;have e1l:w.heap.size<w'.drew.heap.size:=b1l;have e2l:w.heap.size+1<w'.drew.heap.size:=b2l;have mbl:mb<w'.drew.heap.size:=HM2.out.blk.lt;clear hS c42 c43 b1 b2 b1l b2l b1f b2f;generalize w'.drew=W at *;go_wp2_with fail
   have hS:W.drew.cell? ⟨mb,43,none⟩=some (.int .i64 s.move)∧W.drew.cell? ⟨w.heap.size,0,none⟩=some (.int .i64 i)∧W.drew.cell? ⟨w.heap.size+1,0,none⟩=some (.int .i64 y):=⟨e3,e1,e2⟩;refine Bl [7] [1,5,6] [] 8 (fun w':World=>w'.cell? ⟨mb,43,none⟩=some (.int .i64 s.move)∧w'.cell? ⟨w.heap.size,0,none⟩=some (.int .i64 i)∧w'.cell? ⟨w.heap.size+1,0,none⟩=some (.int .i64 y)) ?_;refine Ai ?_;refine An hS ?_
   iterate 3 (refine Ai ?_)
   refine An hS ?_;refine An hS ?_;refine Aq fun K hK=>?_;go_simp
   refine(Oy W.drew mb O L' _ HM2.out.drew i s.move _ hil hmv).mono ?_;intro e w9 hp;have HP:=Aa (hp.from_ HT2.out.drew);obtain⟨rfl,_⟩:=hp;dsimp only;refine Aj hK ?_;clear hK K;refine Ah ?_;go_wp2;go_end0;rw[Zy HLM.out HX.out];exact HP.out
  ·have HX:=Aa hx;have hx':has s x=false:=by simpa using hx
   have HX':=Aa hx';clear hx hx';go_enter Tryz.func210,Tryz.ntmps210;go_wp2_with fail
   refine(Cd w mb O L s H.out x y r HS.out _ _).mono ?_;rintro e w' ⟨rfl,ht,hb1,hb2⟩;obtain⟨L',hM⟩:=ht.ma;have HM:=Aa hM;have HT:=Aa ht;have hlt:=ht.lt;have b1:=hb1.cell 0;have b1l:=hb1.lt;have b1f:=hb1.frozen 0;have b2:=hb2.cell 0;have b2l:=hb2.lt;have b2f:=hb2.frozen 0;simp only[List.getElem?_toArray,List.getElem?_cons_zero] at b1 b2;clear ht hM hb1 hb2;go_wp2_with fail
   have c42:=HM.out.blk.cell 42;rw[HM.out.c.c42] at c42;dsimp only at c42;have c43:=HM.out.blk.cell 43;rw[HM.out.c.c43] at c43;dsimp only at c43;rw[HLM.out] at c42;have hS:w'.drew.cell? ⟨mb,42,none⟩=some (.int .i64 s.move)∧w'.drew.cell? ⟨mb,43,none⟩=some (.int .i64 s.move)∧w'.drew.cell? ⟨w.heap.size,0,none⟩=some (.int .i64 x):=⟨c42,c43,b1⟩;refine Bl [12] [3,7,11] [] 14 (fun w':World=>w'.cell? ⟨mb,42,none⟩=some (.int .i64 s.move)∧w'.cell? ⟨mb,43,none⟩=some (.int .i64 s.move)∧w'.cell? ⟨w.heap.size,0,none⟩=some (.int .i64 x)) ?_
   iterate 3 (refine Ai ?_)
   refine An hS ?_
   iterate 3 (refine Ai ?_)
   refine An hS ?_
   iterate 3 (refine Ai ?_)
   go_simp;refine An hS ?_;refine Aq fun K hK=>?_;go_simp
   refine(Ea w'.drew mb O L' _ HM.out.drew _).mono ?_;rintro e w5 ⟨rfl,rfl⟩;have hh:has { s with stack:=r } x=false:=HX'.out;rw[hh];clear hh;dsimp only;refine Aj hK ?_;clear hK K;refine Ai ?_;refine Ah ?_;have HM2:=Aa HM.out.drew;have HT2:=Aa HT.out.fr.drew;go_wp2;go_end0;rw[Vb (fun e=>HX.out e.2)];exact .here HM2.out HT2.out
 ·have HLM:=Aa hlm;have hb:(s.look==s.move)=false:=by simpa using hlm
  clear hlm;go_enter Tryz.func210,Tryz.ntmps210;go_wp2_with fail
  refine(Cd w mb O L s H.out x y r HS.out _ _).mono ?_;rintro e w' ⟨rfl,ht,hb1,hb2⟩;obtain⟨L',hM⟩:=ht.ma;have HM:=Aa hM;have HT:=Aa ht;have hlt:=ht.lt;have b1:=hb1.cell 0;have b1l:=hb1.lt;have b1f:=hb1.frozen 0;have b2:=hb2.cell 0;have b2l:=hb2.lt;have b2f:=hb2.frozen 0;simp only[List.getElem?_toArray,List.getElem?_cons_zero] at b1 b2;clear ht hM hb1 hb2;go_wp2_with fail
  have c42:=HM.out.blk.cell 42;rw[HM.out.c.c42] at c42;dsimp only at c42;have c43:=HM.out.blk.cell 43;rw[HM.out.c.c43] at c43;dsimp only at c43;have hS:w'.drew.cell? ⟨mb,42,none⟩=some (.int .i64 s.look)∧w'.drew.cell? ⟨mb,43,none⟩=some (.int .i64 s.move)∧w'.drew.cell? ⟨w.heap.size,0,none⟩=some (.int .i64 x):=⟨c42,c43,b1⟩;refine Bl [] [3,7] [] 14 (fun w':World=>w'.cell? ⟨mb,42,none⟩=some (.int .i64 s.look)∧w'.cell? ⟨mb,43,none⟩=some (.int .i64 s.move)∧w'.cell? ⟨w.heap.size,0,none⟩=some (.int .i64 x)) ?_
  iterate 3 (refine Ai ?_)
  refine An hS ?_
  iterate 3 (refine Ai ?_)
  refine An hS ?_;refine Ai ?_;refine Ai ?_;go_simp;refine Bh rfl rfl rfl (by kernel_rfl) (fun _ _ _ h=>h) ?_;refine Bh rfl rfl rfl (by kernel_rfl) (fun _ _ _ h=>h) ?_;refine Bh rfl rfl rfl (by kernel_rfl) (fun _ _ _ h=>h) ?_;refine Ai ?_;refine Ah ?_;have HM2:=Aa HM.out.drew;have HT2:=Aa HT.out.fr.drew;go_wp2;go_end0;rw[Vb (fun e=>HLM.out e.1)];exact .here HM2.out HT2.out
end Go.Proofs.YtnhebmgibiomnaaGreat
namespace Go.Proofs.YtnhebmgibiomnaaGreat
open Go.RowKit Mc
theorem Yp (w:World) (mb:Nat) (O:Nat→Prop) (L:Lay) (s:St) (h:MaL w mb O L s) (x y:Int) (r:List Int) (hs:s.stack=y::x::r) :
  Calls Tryz.prog 212 #[.pointer (some ⟨mb,0,none⟩)] w (MPost w mb O (Ie s r x y)):=by
 have H:=Aa h;have HS:=Aa hs;have hmv:=h.ok.move;have hcl:=h.ok.curl;clear h hs;by_cases hlm:s.look=s.move
 ·have HLM:=Aa hlm;clear hlm;by_cases hx:has s x=true
  ·have HX:=Aa hx;obtain⟨i,rfl,hil⟩:=Fq hx;clear hx;by_cases hy:has s y=true
   ·have HY:=Aa hy;obtain⟨j,rfl,hjl⟩:=Fq hy;clear hy;go_enter Tryz.func212,Tryz.ntmps212;go_wp2_with fail
    refine(Cd w mb O L s H.out _ _ r HS.out _ _).mono ?_;rintro e w' ⟨rfl,ht,hb1,hb2⟩;obtain⟨L',hM⟩:=ht.ma;have HM:=Aa hM;have HT:=Aa ht;have hlt:=ht.lt;have b1:=hb1.cell 0;have b1l:=hb1.lt;have b1f:=hb1.frozen 0;have b2:=hb2.cell 0;have b2l:=hb2.lt;have b2f:=hb2.frozen 0;simp only[List.getElem?_toArray,List.getElem?_cons_zero] at b1 b2;clear ht hM hb1 hb2;go_wp2_with fail
    have c42:=HM.out.blk.cell 42;rw[HM.out.c.c42] at c42;dsimp only at c42;have c43:=HM.out.blk.cell 43;rw[HM.out.c.c43] at c43;dsimp only at c43;rw[HLM.out] at c42;have hS:w'.drew.cell? ⟨mb,42,none⟩=some (.int .i64 s.move)∧w'.drew.cell? ⟨mb,43,none⟩=some (.int .i64 s.move)∧w'.drew.cell? ⟨w.heap.size,0,none⟩=some (.int .i64 i)∧w'.drew.cell? ⟨w.heap.size+1,0,none⟩=some (.int .i64 j):=⟨c42,c43,b1,b2⟩;refine Bl [12,17] [3,7,11,16] [12] 19 (fun w':World=>w'.cell? ⟨mb,42,none⟩=some (.int .i64 s.move)∧w'.cell? ⟨mb,43,none⟩=some (.int .i64 s.move)∧w'.cell? ⟨w.heap.size,0,none⟩=some (.int .i64 i)∧w'.cell? ⟨w.heap.size+1,0,none⟩=some (.int .i64 j)) ?_
    iterate 3 (refine Ai ?_)
    refine An hS ?_
    iterate 3 (refine Ai ?_)
    refine An hS ?_
    iterate 3 (refine Ai ?_)
    go_simp;refine An hS ?_;refine Aq fun K hK=>?_;go_simp
    refine(Ea w'.drew mb O L' _ HM.out.drew _).mono ?_;rintro e w5 ⟨rfl,rfl⟩;have hh:has { s with stack:=r } ((i:Int))=true:=HX.out;rw[hh];clear hh;dsimp only;refine hK _ _ (fun _=>hS) ?_;clear hK K
    iterate 3 (refine Ai ?_)
    go_simp;refine An hS ?_;refine Aq fun K hK=>?_;go_simp
    refine(Ea w'.drew mb O L' _ HM.out.drew _).mono ?_;rintro e w5 ⟨rfl,rfl⟩;have hh:has { s with stack:=r } ((j:Int))=true:=HY.out;rw[hh];clear hh;dsimp only;refine Aj hK ?_;clear hK K;refine Ai ?_;refine Ah ?_;have HM2:=Aa HM.out.drew;have HT2:=Aa HT.out.fr.drew;have e1:w'.drew.cell? ⟨w.heap.size,0,none⟩=some (.int .i64 i):=b1;have e2:w'.drew.cell? ⟨w.heap.size+1,0,none⟩=some (.int .i64 j):=b2;have e3:w'.drew.cell? ⟨mb,43,none⟩=some (.int .i64 s.move):=c43;have e1l:w.heap.size<w'.drew.heap.size:=b1l;have e2l:w.heap.size+1<w'.drew.heap.size:=b2l;have mbl:mb<w'.drew.heap.size:=HM2.out.blk.lt;obtain⟨g,c,pt,hv,hc1,hpt,hgl,hcell⟩:=HM2.out.pt (p:=i) hil;dsimp only at hpt hv hc1;have HPT:=Aa hpt;have e4:=HM2.out.blk.cell 3;rw[HM2.out.c.c3,hv] at e4;have d0:=hcell s.move;clear hcell hpt hv hS c42 c43 b1 b2 b1l b2l b1f b2f;generalize hd:(if s.move=1 then 1 else 0:Nat)=d at d0;have HD:=Aa hd;clear hd;generalize w'.drew=W at *;go_wp2_with fail
    have hS:W.drew.cell? ⟨mb,43,none⟩=some (.int .i64 s.move)∧W.drew.cell? ⟨mb,3,none⟩=some (.slice (some ⟨g,0,none⟩) s.cur.length c)∧W.drew.cell? ⟨w.heap.size,0,none⟩=some (.int .i64 i)∧W.drew.cell? ⟨w.heap.size+1,0,none⟩=some (.int .i64 j)∧W.drew.cell? ⟨g,i*2+d,none⟩=some (.int .i64 (Az s.move pt)):=⟨e3,e4,e1,e2,d0⟩;refine Bl [17,20] [1,5,10,11,16,19] [17] 21 (fun w':World=>w'.cell? ⟨mb,43,none⟩=some (.int .i64 s.move)∧w'.cell? ⟨mb,3,none⟩=some (.slice (some ⟨g,0,none⟩) s.cur.length c)∧w'.cell? ⟨w.heap.size,0,none⟩=some (.int .i64 i)∧w'.cell? ⟨w.heap.size+1,0,none⟩=some (.int .i64 j)∧w'.cell? ⟨g,i*2+d,none⟩=some (.int .i64 (Az s.move pt))) ?_;refine Ai ?_;refine An hS ?_
    iterate 3 (refine Ai ?_)
    refine An hS ?_
    iterate 4 (refine Ai ?_)
    refine An hS ?_;refine An hS ?_
    iterate 4 (refine Ai ?_)
    refine An hS ?_;refine Aq fun K hK=>?_;go_simp
    refine(Bn _ _ _ _).mono ?_;rintro e w5 ⟨rfl,rfl⟩;rw[HD.out];dsimp only;refine hK _ _ (fun _=>hS) ?_;clear hK K;refine Ai ?_;refine An hS ?_;refine Aq fun K hK=>?_;go_simp
    refine(Oy W.drew mb O L' _ HM2.out.drew j s.move _ hjl hmv).mono ?_;intro e w9 hp;have HP:=Aa (hp.from_ HT2.out.drew);obtain⟨rfl,_⟩:=hp;dsimp only;refine Aj hK ?_;clear hK K;refine Ah ?_;go_wp2;go_end0;rw[Uc HLM.out HX.out HY.out HPT.out];exact HP.out
   ·have HY:=Aa hy;have hy':has s y=false:=by simpa using hy
    have HY':=Aa hy';clear hy hy';go_enter Tryz.func212,Tryz.ntmps212;go_wp2_with fail
    refine(Cd w mb O L s H.out _ _ r HS.out _ _).mono ?_;rintro e w' ⟨rfl,ht,hb1,hb2⟩;obtain⟨L',hM⟩:=ht.ma;have HM:=Aa hM;have HT:=Aa ht;have hlt:=ht.lt;have b1:=hb1.cell 0;have b1l:=hb1.lt;have b1f:=hb1.frozen 0;have b2:=hb2.cell 0;have b2l:=hb2.lt;have b2f:=hb2.frozen 0;simp only[List.getElem?_toArray,List.getElem?_cons_zero] at b1 b2;clear ht hM hb1 hb2;go_wp2_with fail
    have c42:=HM.out.blk.cell 42;rw[HM.out.c.c42] at c42;dsimp only at c42;have c43:=HM.out.blk.cell 43;rw[HM.out.c.c43] at c43;dsimp only at c43;rw[HLM.out] at c42;have hS:w'.drew.cell? ⟨mb,42,none⟩=some (.int .i64 s.move)∧w'.drew.cell? ⟨mb,43,none⟩=some (.int .i64 s.move)∧w'.drew.cell? ⟨w.heap.size,0,none⟩=some (.int .i64 i)∧w'.drew.cell? ⟨w.heap.size+1,0,none⟩=some (.int .i64 y):=⟨c42,c43,b1,b2⟩;refine Bl [12,17] [3,7,11,16] [12] 19 (fun w':World=>w'.cell? ⟨mb,42,none⟩=some (.int .i64 s.move)∧w'.cell? ⟨mb,43,none⟩=some (.int .i64 s.move)∧w'.cell? ⟨w.heap.size,0,none⟩=some (.int .i64 i)∧w'.cell? ⟨w.heap.size+1,0,none⟩=some (.int .i64 y)) ?_
    iterate 3 (refine Ai ?_)
    refine An hS ?_
    iterate 3 (refine Ai ?_)
    refine An hS ?_
    iterate 3 (refine Ai ?_)
    go_simp;refine An hS ?_;refine Aq fun K hK=>?_;go_simp
    refine(Ea w'.drew mb O L' _ HM.out.drew _).mono ?_;rintro e w5 ⟨rfl,rfl⟩;have hh:has { s with stack:=r } ((i:Int))=true:=HX.out;rw[hh];clear hh;dsimp only;refine hK _ _ (fun _=>hS) ?_;clear hK K
    iterate 3 (refine Ai ?_)
    go_simp;refine An hS ?_;refine Aq fun K hK=>?_;go_simp
    refine(Ea w'.drew mb O L' _ HM.out.drew _).mono ?_;rintro e w5 ⟨rfl,rfl⟩;have hh:has { s with stack:=r } (y)=false:=HY'.out;rw[hh];clear hh;dsimp only;refine Aj hK ?_;clear hK K;refine Ai ?_;refine Ah ?_;have HM2:=Aa HM.out.drew;have HT2:=Aa HT.out.fr.drew;go_wp2;go_end0;rw[Kd (fun e=>HY.out e.2.2)];exact .here HM2.out HT2.out
  ·have HX:=Aa hx;have hx':has s x=false:=by simpa using hx
   have HX':=Aa hx';clear hx hx';go_enter Tryz.func212,Tryz.ntmps212;go_wp2_with fail
   refine(Cd w mb O L s H.out _ _ r HS.out _ _).mono ?_;rintro e w' ⟨rfl,ht,hb1,hb2⟩;obtain⟨L',hM⟩:=ht.ma;have HM:=Aa hM;have HT:=Aa ht;have hlt:=ht.lt;have b1:=hb1.cell 0;have b1l:=hb1.lt;have b1f:=hb1.frozen 0;have b2:=hb2.cell 0;have b2l:=hb2.lt;have b2f:=hb2.frozen 0;simp only[List.getElem?_toArray,List.getElem?_cons_zero] at b1 b2;clear ht hM hb1 hb2;go_wp2_with fail
   have c42:=HM.out.blk.cell 42;rw[HM.out.c.c42] at c42;dsimp only at c42;have c43:=HM.out.blk.cell 43;rw[HM.out.c.c43] at c43;dsimp only at c43;rw[HLM.out] at c42;have hS:w'.drew.cell? ⟨mb,42,none⟩=some (.int .i64 s.move)∧w'.drew.cell? ⟨mb,43,none⟩=some (.int .i64 s.move)∧w'.drew.cell? ⟨w.heap.size,0,none⟩=some (.int .i64 x)∧w'.drew.cell? ⟨w.heap.size+1,0,none⟩=some (.int .i64 y):=⟨c42,c43,b1,b2⟩;refine Bl [12] [3,7,11] [] 19 (fun w':World=>w'.cell? ⟨mb,42,none⟩=some (.int .i64 s.move)∧w'.cell? ⟨mb,43,none⟩=some (.int .i64 s.move)∧w'.cell? ⟨w.heap.size,0,none⟩=some (.int .i64 x)∧w'.cell? ⟨w.heap.size+1,0,none⟩=some (.int .i64 y)) ?_
   iterate 3 (refine Ai ?_)
   refine An hS ?_
   iterate 3 (refine Ai ?_)
   refine An hS ?_
   iterate 3 (refine Ai ?_)
   go_simp;refine An hS ?_;refine Aq fun K hK=>?_;go_simp
   refine(Ea w'.drew mb O L' _ HM.out.drew _).mono ?_;rintro e w5 ⟨rfl,rfl⟩;have hh:has { s with stack:=r } (x)=false:=HX'.out;rw[hh];clear hh;dsimp only;refine Aj hK ?_;clear hK K;refine Ai ?_;refine Ai ?_;go_simp;refine Bh rfl rfl rfl (by kernel_rfl) (fun _ _ _ h=>h) ?_;refine Bh rfl rfl rfl (by kernel_rfl) (fun _ _ _ h=>h) ?_;refine Bh rfl rfl rfl (by kernel_rfl) (fun _ _ _ h=>h) ?_;refine Ai ?_;refine Ah ?_;have HM2:=Aa HM.out.drew;have HT2:=Aa HT.out.fr.drew;go_wp2;go_end0;rw[Kd (fun e=>HX.out e.2.1)];exact .here HM2.out HT2.out
 ·have HLM:=Aa hlm;have hb:(s.look==s.move)=false:=by simpa using hlm
  clear hlm;go_enter Tryz.func212,Tryz.ntmps212;go_wp2_with fail
  refine(Cd w mb O L s H.out _ _ r HS.out _ _).mono ?_;rintro e w' ⟨rfl,ht,hb1,hb2⟩;obtain⟨L',hM⟩:=ht.ma;have HM:=Aa hM;have HT:=Aa ht;have hlt:=ht.lt;have b1:=hb1.cell 0;have b1l:=hb1.lt;have b1f:=hb1.frozen 0;have b2:=hb2.cell 0;have b2l:=hb2.lt;have b2f:=hb2.frozen 0;simp only[List.getElem?_toArray,List.getElem?_cons_zero] at b1 b2;clear ht hM hb1 hb2;go_wp2_with fail
  have c42:=HM.out.blk.cell 42;rw[HM.out.c.c42] at c42;dsimp only at c42;have c43:=HM.out.blk.cell 43;rw[HM.out.c.c43] at c43;dsimp only at c43;have hS:w'.drew.cell? ⟨mb,42,none⟩=some (.int .i64 s.look)∧w'.drew.cell? ⟨mb,43,none⟩=some (.int .i64 s.move)∧w'.drew.cell? ⟨w.heap.size,0,none⟩=some (.int .i64 x)∧w'.drew.cell? ⟨w.heap.size+1,0,none⟩=some (.int .i64 y):=⟨c42,c43,b1,b2⟩;refine Bl [] [3,7] [] 19 (fun w':World=>w'.cell? ⟨mb,42,none⟩=some (.int .i64 s.look)∧w'.cell? ⟨mb,43,none⟩=some (.int .i64 s.move)∧w'.cell? ⟨w.heap.size,0,none⟩=some (.int .i64 x)∧w'.cell? ⟨w.heap.size+1,0,none⟩=some (.int .i64 y)) ?_
  iterate 3 (refine Ai ?_)
  refine An hS ?_
  iterate 3 (refine Ai ?_)
  refine An hS ?_;refine Ai ?_;refine Ai ?_;go_simp;refine Bh rfl rfl rfl (by kernel_rfl) (fun _ _ _ h=>h) ?_;refine Bh rfl rfl rfl (by kernel_rfl) (fun _ _ _ h=>h) ?_;refine Bh rfl rfl rfl (by kernel_rfl) (fun _ _ _ h=>h) ?_;refine Ai ?_;refine Ai ?_;go_simp;refine Bh rfl rfl rfl (by kernel_rfl) (fun _ _ _ h=>h) ?_;refine Bh rfl rfl rfl (by kernel_rfl) (fun _ _ _ h=>h) ?_;refine Bh rfl rfl rfl (by kernel_rfl) (fun _ _ _ h=>h) ?_;refine Ai ?_;refine Ah ?_;have HM2:=Aa HM.out.drew;have HT2:=Aa HT.out.fr.drew;go_wp2;go_end0;rw[Kd (fun e=>HLM.out e.1)];exact .here HM2.out HT2.out
theorem Wl (w:World) (mb:Nat) (O:Nat→Prop) (L:Lay) (s:St) (h:MaL w mb O L s) (a x y:Int) (r:List Int) (hs:s.stack=y::x::r) :
  Calls Tryz.prog 207 #[.pointer (some ⟨mb,0,none⟩),.int .i64 a] w (MPost w mb O (Nj s r x y)):=by
 have HC:=Aa (Uz w mb O L s h x y r hs);clear h hs;go_enter Tryz.func207,Tryz.ntmps207;go_wp2_with fail
 refine HC.out.mono ?_;intro e w9 hp;have HP:=Aa hp;obtain⟨rfl,_⟩:=hp;go_wp2;go_end0;exact HP.out
theorem Zx (w:World) (mb:Nat) (O:Nat→Prop) (L:Lay) (s:St) (h:MaL w mb O L s) (a x y:Int) (r:List Int) (hs:s.stack=y::x::r) :
  Calls Tryz.prog 209 #[.pointer (some ⟨mb,0,none⟩),.int .i64 a] w (MPost w mb O (Zbv s r x y)):=by
 have HC:=Aa (Zel w mb O L s h x y r hs);clear h hs;go_enter Tryz.func209,Tryz.ntmps209;go_wp2_with fail
 refine HC.out.mono ?_;intro e w9 hp;have HP:=Aa hp;obtain⟨rfl,_⟩:=hp;go_wp2;go_end0;exact HP.out
theorem Ub (w:World) (mb:Nat) (O:Nat→Prop) (L:Lay) (s:St) (h:MaL w mb O L s) (a x y:Int) (r:List Int) (hs:s.stack=y::x::r) :
  Calls Tryz.prog 211 #[.pointer (some ⟨mb,0,none⟩),.int .i64 a] w (MPost w mb O (Ie s r x y)):=by
 have HC:=Aa (Yp w mb O L s h x y r hs);clear h hs;go_enter Tryz.func211,Tryz.ntmps211;go_wp2_with fail
 refine HC.out.mono ?_;intro e w9 hp;have HP:=Aa hp;obtain⟨rfl,_⟩:=hp;go_wp2;go_end0;exact HP.out
section
variable {w w' w1 : World} {sb : Nat} {L : SLay} {s : Sr.St}
theorem SrL.pt (h:SrL w sb L s) {p:Nat} (hp:p<s.m.cur.length):∃ g c x,L.cu=.slice (some ⟨g,0,none⟩) s.m.cur.length c∧s.m.cur.length≤c∧s.m.cur[p]?=some x∧g<w.heap.size∧(∀ axis,w.cell? ⟨g,p*2+(if axis=1 then 1 else 0),none⟩=some (.int .i64 (Az axis x)))∧∀ j,w.frozen? ⟨g,j,none⟩=false:=by
 obtain⟨x,hx⟩:∃ x,s.m.cur[p]?=some x:=⟨_,List.getElem?_eq_getElem hp⟩;obtain⟨g,c,hv,hc1,hg0,hgl,hcells⟩:=Bb h.cu (by omega);refine⟨g,c,x,hv,hc1,hx,hgl,fun axis=>hcells _ _ (Cp hx axis),fun j=>?_⟩;obtain⟨_,_,_,hb⟩:=Ag h.cu (g:=g) (by rw[hv];rfl);exact hb.frozen j
theorem SrL.tqAt (h:SrL w sb L s) {p:Nat} (hp:p<s.m.cur.length):∃ g c t,L.tq=.slice (some ⟨g,0,none⟩) s.m.touch.length c∧s.m.touch[p]?=some t∧g<w.heap.size∧w.cell? ⟨g,p,none⟩=some (.int .i64 t)∧w.frozen? ⟨g,p,none⟩=false:=by
 have hpt:p<s.m.touch.length:=by rw[h.ok.m.tl];exact hp
 obtain⟨t,ht⟩:∃ t,s.m.touch[p]?=some t:=⟨_,List.getElem?_eq_getElem hpt⟩;obtain⟨g,c,hv,hc1,hg0,hgl,hcells⟩:=Bb h.tq (by omega);obtain⟨_,_,_,hb⟩:=Ag h.tq (g:=g) (by rw[hv];rfl);exact⟨g,c,t,hv,ht,hgl,hcells _ _ (Bf ht),hb.frozen p⟩
end
theorem Cw (w:World) (sb:Nat) (L:SLay) (s:Sr.St) (h:SrL w sb L s) (x:Int):Calls Tryz.prog 226 #[.pointer (some ⟨sb,0,none⟩),.int .i64 x] w fun e w'=>e=.returned (.bool (has s.m x))∧w=w':=by
 obtain⟨A,c,hv,hc1,hc2⟩:=Ae h.cu;have c65:=h.c65;rw[hv] at c65;have hs:=h.blk.lt;clear h hv;by_cases h0:0≤x
 all_goals
  go_enter Tryz.func226,Tryz.ntmps226;go_wp2_with fail
  go_wp2
  all_goals
   go_ret;exact⟨Bm (by unfold has;simp;omega),rfl⟩
theorem Mq (w:World) (sb:Nat) (L:SLay) (s:Sr.St) (h:SrL w sb L s) (n:Int) (so:Bool) (hn:so=true→0≤n∧s.pc+n≤1000000):Calls Tryz.prog 150 #[.pointer (some ⟨sb,0,none⟩),.int .i64 n,.bool so] w (SPost w sb L (Sr.pass s n so)):=by
 have c75:=h.c75;have hs:=h.blk.lt;have H:=Aa h;cases so with
 | false =>
  clear h hn;go_enter Tryz.func150,Tryz.ntmps150;go_wp2_with fail
  go_wp2;go_end0;exact .here H.out (Fr.refl _ w)
 | true =>
  obtain⟨hn0,hn1⟩:=hn rfl;have HP:=Aa (show SPost w sb L (Sr.pass s n true) (.returned (.tuple #[])) (w.setCell ⟨sb,75,none⟩ (.int .i64 ((s.pc+n.toNat:Nat):Int))) from⟨rfl,h.setPc _,(Fr.refl _ w).setCell (.inl (.inl rfl)) _⟩);obtain⟨n,rfl⟩:∃ m:Nat,n=m:=⟨n.toNat,by omega⟩;have fz:=h.blk.frozen 75;rw[Int.toNat_natCast] at HP;have e:((s.pc+n:Nat):Int)=(s.pc:Int)+n:=by omega
  rw[e] at HP;clear h e;generalize s.pc=pc at *;go_enter Tryz.func150,Tryz.ntmps150;go_wp2_with fail
  go_wp2;go_end0;exact HP.out
theorem Lm (w:World) (sb:Nat) (L:SLay) (s:Sr.St) (h:SrL w sb L s) (p:Nat) (v:Int) (hp:p<s.m.cur.length):Calls Tryz.prog 228 #[.pointer (some ⟨sb,0,none⟩),.int .i64 p,.int .i64 v] w (SPost w sb L { s with m:=goes s.m p s.m.move v }):=by
 obtain⟨g,c,x,hv,hc1,hx,hg,hcell,hfz⟩:=h.pt hp;obtain⟨gt,ct,t,hvt,ht,hgt,tc,tf⟩:=h.tqAt hp;have d0:=hcell s.m.move;have f0:=hfz (p*2+(if s.m.move=1 then 1 else 0));have c65:=h.c65;rw[hv] at c65;have c73:=h.c73;have hmv:=h.ok.m.move;have hxk:=h.ok.m.cur x (List.mem_of_getElem? hx);have htk:=h.ok.m.touch t (List.mem_of_getElem? ht);have h1:=(h.setCu (g:=g) (by rw[hv];rfl) hx s.m.move (k32 v) (Db v) hxk).drew;have h2:=h1.drew.setTq (g:=gt) (by rw[hvt];rfl) (i:=p) (by have:=h.ok.m.tl;simp only;omega) (Uq hmv htk);have hf:Fr (SrS L sb) w ((w.setCell ⟨g,p*2+(if s.m.move=1 then 1 else 0),none⟩ (.int .i64 (k32 v))).drew.drew.setCell ⟨gt,p,none⟩ (.int .i64 (Uf s.m.move t))):=((Fr.refl _ w).setCell (.inl (.inr (.inl (by rw[hv];rfl)))) _).drew.drew.setCell (.inl (.inr (.inr (.inl (by rw[hvt];rfl))))) _;have hq:{ s with m := { s.m with cur:=s.m.cur.set p (if s.m.move=1 then(x.1,k32 v) else(k32 v,x.2)),touch:=s.m.touch.set p (Uf s.m.move t) } } = { s with m:=goes s.m p s.m.move v } := by
  unfold goes Uf to_;rw[Bs hx,Bs ht]
 have HP:Hid (SPost w sb L { s with m:=goes s.m p s.m.move v } (.returned (.tuple #[])) ((w.setCell ⟨g,p*2+(if s.m.move=1 then 1 else 0),none⟩ (.int .i64 (k32 v))).drew.drew.setCell ⟨gt,p,none⟩ (.int .i64 (Uf s.m.move t)))):=Aa (by rw[←hq];exact .here h2 hf);have H1:=Aa h1;have e66:=h1.drew.c66;have e73:=h1.drew.c73;obtain⟨gt',_,t',hvt',ht',_,tc',tf'⟩:=h1.drew.tqAt (p:=p) (by simpa using hp);simp only at hvt' ht' e73;obtain rfl:t=t':=by rw[ht] at ht';injection ht' with ht'
 rw[hvt] at hvt' e66
 injection hvt' with hvt'
 injection hvt' with hvt'
 injection hvt' with hvt'
 subst hvt';have hs:=h.blk.lt;have hpl:(p:Int)<s.m.cur.length:=by omega
 have hcl:=h.ok.m.curl;have hlt:=h.ok.m.tl;have hptl:p<s.m.touch.length:=by omega
 have hptl':s.m.touch.length≤1000000:=by omega
 have HTL:=Aa hlt;clear h h1 h2 hf hq hcell hfz hv hvt hx ht ht' hlt hc1;generalize hm:s.m.move=mv at *;generalize hd:(if mv=1 then 1 else 0:Nat)=d at *;have HD:=Aa hd;have HM:=Aa hm;clear hd hm;go_enter Tryz.func228,Tryz.ntmps228;go_wp2_with fail
 have hS:w.drew.cell? ⟨sb,65,none⟩=some (.slice (some ⟨g,0,none⟩) s.m.cur.length c)∧w.drew.cell? ⟨sb,73,none⟩=some (.int .i64 mv):=⟨c65,c73⟩;refine Aw (fun i=>!([11,13,15]:List Nat).contains i) (fun i=>([4,10]:List Nat).contains i) (fun i=>([]:List Nat).contains i) [0,1,2,3,4,5,6,7,8,9,10,12,11,13,14,15] (fun wq:World=>wq.cell? ⟨sb,65,none⟩=some (.slice (some ⟨g,0,none⟩) s.m.cur.length c)∧wq.cell? ⟨sb,73,none⟩=some (.int .i64 mv)) (by kernel_rfl) (by kernel_rfl) (by kernel_rfl) (by kernel_rfl) ?_
 repeat (first|refine Ai ?_|refine An hS ?_)
 refine Aq fun K hK=>?_;go_simp
 refine(Cc _ _ _ _ hmv.1 hmv.2).mono ?_;rintro e w5 ⟨rfl,rfl⟩;rw[HD.out];dsimp only;refine hK _ _ (fun _=>hS) ?_;clear hK K;refine Aq fun K hK=>?_;go_simp
 refine(Cf _ _).mono ?_;rintro e w5 ⟨rfl,rfl⟩;dsimp only;refine hK _ _ (fun _=>hS) ?_;clear hK K
 repeat (first|refine Ai ?_|refine An hS ?_)
 refine Aq fun K hK=>?_;go_simp
 refine Aj hK ?_;clear hK K;refine Ah ?_;clear hS c65 c73 d0 f0 tc tf;go_wp2_with fail
 generalize (w.setCell ⟨g,p*2+d,none⟩ (.int .i64 (k32 v))).drew=W at *;have bt:=Ob hmv htk;generalize htb:Uf mv t=tb at *;have HTB:=Aa htb;clear htb;rcases(show mv=0∨mv=1 by omega) with hm|hm
 ·subst hm
  replace bt:bits BinOp.or IntKind.i64 t (IntKind.i64.wrap 1)=tb:=bt
  have hS:W.drew.cell? ⟨sb,66,none⟩=some (.slice (some ⟨gt,0,none⟩) s.m.touch.length ct)∧W.drew.cell? ⟨sb,73,none⟩=some (.int .i64 0)∧W.drew.cell? ⟨gt,p,none⟩=some (.int .i64 t):=⟨e66,e73,tc'⟩;refine Bl [15] [4,7,11] [] 16 (fun wq:World=>wq.cell? ⟨sb,66,none⟩=some (.slice (some ⟨gt,0,none⟩) s.m.touch.length ct)∧wq.cell? ⟨sb,73,none⟩=some (.int .i64 0)∧wq.cell? ⟨gt,p,none⟩=some (.int .i64 t)) ?_
  repeat (first|refine Ai ?_|refine An hS ?_)
  refine Aq fun K hK=>?_;go_simp
  refine Aj hK ?_;clear hK K;refine Ah ?_;go_wp2;go_end0;exact HP.out
 ·subst hm
  replace bt:bits BinOp.or IntKind.i64 t (IntKind.i64.wrap 2)=tb:=bt
  have hS:W.drew.cell? ⟨sb,66,none⟩=some (.slice (some ⟨gt,0,none⟩) s.m.touch.length ct)∧W.drew.cell? ⟨sb,73,none⟩=some (.int .i64 1)∧W.drew.cell? ⟨gt,p,none⟩=some (.int .i64 t):=⟨e66,e73,tc'⟩;refine Bl [15] [4,7,11] [] 16 (fun wq:World=>wq.cell? ⟨sb,66,none⟩=some (.slice (some ⟨gt,0,none⟩) s.m.touch.length ct)∧wq.cell? ⟨sb,73,none⟩=some (.int .i64 1)∧wq.cell? ⟨gt,p,none⟩=some (.int .i64 t)) ?_
  repeat (first|refine Ai ?_|refine An hS ?_)
  refine Aq fun K hK=>?_;go_simp
  refine Aj hK ?_;clear hK K;refine Ah ?_;go_wp2;go_end0;exact HP.out
end Go.Proofs.YtnhebmgibiomnaaGreat

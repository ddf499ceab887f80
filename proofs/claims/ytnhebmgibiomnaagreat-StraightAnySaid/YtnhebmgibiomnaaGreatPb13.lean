/- Parts of the proof, joined: MaW SrM. -/
import Derived.BigRegion
import Derived.Deep.RegionHeld3
import Derived.Test.YtnhebmgibiomnaaGreatPb12
set_option linter.unusedVariables false
set_option linter.unusedSimpArgs false
set_option maxRecDepth 100000
set_option maxHeartbeats 8000000
namespace Go.Proofs.YtnhebmgibiomnaaGreat
open Go.RowKit Mc
theorem Lf (c:Nat×Nat) (p:Nat) (w:World) (hp:p≤1000000) :
  Calls Tryz.prog 256 #[.agg #[.int .i64 c.1,.int .i64 c.2],.int .i64 p] w fun e w'=>e=.returned (.int .i64 (Bx c p))∧Below w.heap.size w w':=by
 obtain⟨c1,c2⟩:=c;by_cases h:p=c2
 ·have HB:Hid (Bx (c1,c2) p=c1):=Aa (by unfold Bx;rw[if_pos h]);subst h;go_enter Tryz.func256,Tryz.ntmps256;go_wp2;go_ret;exact⟨Dg (by rw[HB.out]),aliasBr.alloc Ad _⟩
 ·have HB:Hid (Bx (c1,c2) p=p+1):=Aa (by unfold Bx;rw[if_neg h]);have h':¬ (p:Int)=(c2:Int):=by omega
  go_enter Tryz.func256,Tryz.ntmps256;go_wp2;go_ret;exact⟨Dg (by rw[HB.out];simp),aliasBr.alloc Ad _⟩
def fx (touch:List Int) (axis:Int) (a n:Nat):List Nat:=((List.range n).map (· + a)).filter fun p=>bit axis (touch.getD p 0)
theorem Xp (touch:List Int) (axis:Int) (a n:Nat):fx touch axis a (n+1)=fx touch axis a n++(if bit axis (touch.getD (n+a) 0) then[n+a] else[]):=by
 unfold fx;rw[List.range_succ,List.map_append,List.filter_append];simp only[List.map_cons,List.map_nil,List.filter_cons,List.filter_nil]
theorem Zcc {touch:List Int} {axis:Int} {a n p:Nat} (h:p∈fx touch axis a n):a≤p∧p<a+n:=by
 unfold fx at h;obtain⟨h1,_⟩:=List.mem_filter.1 h;obtain⟨x,hx,rfl⟩:=List.mem_map.1 h1;have:=List.mem_range.1 hx;omega
theorem Rh (touch:List Int) (axis:Int) (a n:Nat):(fx touch axis a n).length≤n:=by
 unfold fx;refine Nat.le_trans (List.length_filter_le _ _) (by simp)
theorem Rt {axis t:Int} (ha:0≤axis∧axis≤1) (ht:0≤t∧t≤3):(bits BinOp.and IntKind.i64 t (axis+1) !=0)=bit axis t:=by
 obtain⟨h1,h2⟩:=ha;obtain⟨h3,h4⟩:=ht;have e1:axis=0∨axis=1:=by omega
 have e2:t=0∨t=1∨t=2∨t=3:=by omega
 rcases e1 with rfl|rfl <;> rcases e2 with rfl|rfl|rfl|rfl <;> rfl
def Zbj (c:Nat×Nat) (b p:Nat):Nat:=if p≤b then b-p else c.2+1-p+(b-c.1)
theorem Ns {c:Nat×Nat} {b p:Nat} (hc:c.1≤c.2) (h1:c.1≤p) (h2:p≤c.2) (h3:c.1≤b) (h4:b≤c.2) (h:p≠b):Zbj c b (Bx c p)+1=Zbj c b p∧c.1≤Bx c p∧Bx c p≤c.2:=by
 unfold Zbj Bx
 repeat' split
 all_goals omega
theorem Xy {c:Nat×Nat} {b p:Nat} (h1:c.1≤p) (h2:p≤c.2) (h3:c.1≤b) (h4:b≤c.2):Zbj c b p≤c.2+1-c.1:=by
 unfold Zbj;split <;> omega
theorem Vf (org:List (Int×Int)) (axis:Int) (c:Nat×Nat) (a b n:Nat) (cur:List (Int×Int)):seg org axis c a b n b cur=cur:=by
 cases n with
 | zero=>rfl
 | succ n=>unfold seg;rw[if_pos rfl]
theorem Qq {org:List (Int×Int)} {axis:Int} {c:Nat×Nat} {a b n p:Nat} {cur:List (Int×Int)} (h:p≠b):seg org axis c a b (n+1) p cur=seg org axis c a b n (Bx c p) (Lu org axis cur p a b):=by
 conv=>lhs;unfold seg
 rw[if_neg h]
def Qp (org:List (Int×Int)) (l:List Nat) (axis:Int) (c:Nat×Nat) (cur:List (Int×Int)) (k:Nat):List (Int×Int) :=
 (List.range k).foldl (fun cur i=>let a:=l.getD i 0;seg org axis c a (l.getD ((i+1) % l.length) 0) (c.2+1-c.1) (Bx c a) cur) cur
theorem Mv {org:List (Int×Int)} {l:List Nat} {axis:Int} {c:Nat×Nat} {cur:List (Int×Int)} {k a b:Nat} (ha:l[k]?=some a) (hb:l[(k+1) % l.length]?=some b) :
  Qp org l axis c cur (k+1)=seg org axis c a b (c.2+1-c.1) (Bx c a) (Qp org l axis c cur k):=by
 unfold Qp;rw[List.range_succ,List.foldl_append];simp only[List.foldl_cons,List.foldl_nil];rw[Bs ha,Bs hb]
theorem Lc (org:List (Int×Int)) (touch:List Int) (axis:Int) (cur:List (Int×Int)) (c:Nat×Nat):Ft org touch axis cur c=Qp org (fx touch axis c.1 (c.2+1-c.1)) axis c cur (fx touch axis c.1 (c.2+1-c.1)).length:=rfl
theorem OwnAt.ints {t:TypeId} {base:Nat} {w:World} {v:Value} {l:List Int} (h:OwnAt (Repr.int (N0:=0)) t base w v l) :
  ∃ g A c,v=.slice A l.length c∧l.length≤c∧base≤g∧∀ (i:Nat) x,l[i]?=some x→A=some ⟨g,0,none⟩∧g<w.heap.size∧w.cell? ⟨g,i,none⟩=some (.int .i64 x):=by
 obtain⟨A,c,rfl,hc,_,hrow⟩:=h.form;cases hl:l with
 | nil=>subst hl;exact⟨base,A,c,rfl,hc,Ad,fun i x hx=>by simp at hx⟩
 | cons y r =>
  obtain⟨css,ho,_⟩:=h;rcases ho.2 with⟨_,h0⟩|⟨g,cap,cur,h0,hg,hh,_⟩
  ·rw[hl] at h0;simp at h0
  ·injection h0 with h1 _ _
   subst h1;refine⟨g,_,c,by rw[←hl],by rw[←hl];exact hc,hg,fun i x hx=>?_⟩;rw[←hl] at hx;obtain⟨b,off,cs,e,_,hr,hcell⟩:=hrow.get hx
   injection e with e
   injection e with e1 e2
   subst e1 e2;obtain⟨rfl,_⟩:=hr;refine⟨rfl,(Array.getElem?_eq_some_iff.1 hh).1,?_⟩;have:=hcell 0 _ rfl
   simpa [Repr.int] using this
theorem Jy {l:List (Nat×Nat)} {i:Nat} {c:Nat×Nat} (h:l[i]?=some c):(cts l)[i*2]?=some (.int .i64 c.1)∧(cts l)[i*2+1]?=some (.int .i64 c.2):=by
 induction l generalizing i with
 | nil=>simp at h
 | cons a r ih =>
  cases i with
  | zero=>simp only[List.getElem?_cons_zero,Option.some.injEq] at h;subst h;exact⟨rfl,rfl⟩
  | succ i =>
   simp only[List.getElem?_cons_succ] at h;have:=ih h;simp only[cts,List.flatMap_cons] at this ⊢;rw[show (i+1)*2=i*2+1+1 by omega];exact⟨this.1,this.2⟩
theorem MaL.below {w w':World} {mb:Nat} {O:Nat→Prop} {L:Lay} {s:St} (h:MaL w mb O L s) (hb:Below w.heap.size w w'):MaL w' mb O L s :=
 h.keep (fun k hk=>hb.block k (h.olt k hk)) (fun _ h=>h) (fun k hk=>Nat.lt_of_lt_of_le (h.olt k hk) hb.size)
def InA (w:World) (mb:Nat) (O:Nat→Prop) (L:Lay) (s:St) (axis:Int) (i:Value) (wr:World):Prop :=
 ∃ k:Nat,k≤s.cont.length∧i=.int .i64 k∧MaL wr mb O L { s with cur:=(s.cont.take k).foldl (fun cur c=>Ft s.org s.touch axis cur c) s.cur }∧Fr O w wr
def InB (w:World) (mb:Nat) (O:Nat→Prop) (L:Lay) (s:St) (axis:Int) (c:Nat×Nat) (cb:Nat) (v p:Value) (wq:World):Prop :=
 ∃ (q:Nat) (A:Option Addr) (cc:Nat),c.1≤q∧q≤c.2+1∧p=.int .i64 q∧v=.slice A (fx s.touch axis c.1 (q-c.1)).length cc∧OwnAt (Repr.int (N0:=0)) 3 (cb+1) wq v ((fx s.touch axis c.1 (q-c.1)).map Int.ofNat) ∧
  MaL wq mb O L s∧Blk wq cb 252 #[.int .i64 c.1,.int .i64 c.2]∧Fr O w wq
structure Jn (w:World) (mb:Nat) (O:Nat→Prop) (L:Lay) (s:St) (c:Nat×Nat) (cb g:Nat) (l:List Nat) (cur:List (Int×Int)) (wq:World):Prop where
 ma:MaL wq mb O L { s with cur:=cur }
 fix:∀ (i x:Nat),l[i]?=some x→g<wq.heap.size∧wq.cell? ⟨g,i,none⟩=some (.int .i64 x)
 blk:Blk wq cb 252 #[.int .i64 c.1,.int .i64 c.2]
 fr:Fr O w wq
 gno:¬ O g
 cno:¬ O cb
section
variable {w wq w2 : World} {mb : Nat} {O : Nat → Prop} {L : Lay} {s : St} {c : Nat × Nat} {cb g : Nat} {l : List Nat} {cur cur' : List (Int × Int)}
theorem Jn.go (h:Jn w mb O L s c cb g l cur wq) (hf:Fr O wq w2) (hm:MaL w2 mb O L { s with cur:=cur' }):Jn w mb O L s c cb g l cur' w2 :=
 ⟨hm,fun i x hx=>⟨Nat.lt_of_lt_of_le (h.fix i x hx).1 hf.size,(hf.cell (p:=⟨g,i,none⟩) (h.fix i x hx).1 h.gno).trans (h.fix i x hx).2⟩,hf.blk h.blk h.cno,h.fr.trans hf,h.gno,h.cno⟩
theorem Jn.below (h:Jn w mb O L s c cb g l cur wq) (hb:Below wq.heap.size wq w2):Jn w mb O L s c cb g l cur w2 :=
 h.go (Fr.of_below hb (fun _ hk _=>hk)) (h.ma.below hb)
end
def InC (w:World) (mb:Nat) (O:Nat→Prop) (L:Lay) (s:St) (axis:Int) (c:Nat×Nat) (cb g:Nat) (l:List Nat) (cur:List (Int×Int)) (i:Value) (wq:World):Prop :=
 ∃ k:Nat,k≤l.length∧i=.int .i64 k∧Jn w mb O L s c cb g l (Qp s.org l axis c cur k) wq
def InD (w:World) (mb:Nat) (O:Nat→Prop) (L:Lay) (s:St) (axis:Int) (c:Nat×Nat) (cb g:Nat) (l:List Nat) (a b:Nat) (T:List (Int×Int)) (p:Value) (wq:World):Prop :=
 ∃ (q n:Nat) (cur:List (Int×Int)),c.1≤q∧q≤c.2∧p=.int .i64 q∧Zbj c b q≤n∧seg s.org axis c a b n q cur=T∧Jn w mb O L s c cb g l cur wq
theorem Xb (w:World) (mb:Nat) (O:Nat→Prop) (L:Lay) (s:St) (h:MaL w mb O L s) (axis:Int) (ha:0≤axis∧axis≤1) :
  Calls Tryz.prog 214 #[.pointer (some ⟨mb,0,none⟩),.int .i64 axis] w (Zfs w mb O L (Ki s axis)):=by
 have H0:Hid (InA w mb O L s axis (.int .i64 0) w):=Aa ⟨0,Nat.zero_le _,rfl,by simpa using h,Fr.refl _ _⟩;obtain⟨i0,hi0,hi1,hi2,hi3⟩:=Dc Gb;obtain⟨Ac,cc,hvc,_,_⟩:=h.co.form;have c6:=h.blk.cell 6;rw[h.c.c6,hvc] at c6;have HVC:=Aa hvc;have hctl:=h.ok.contl;have hcul:=h.ok.curl;have HOK:=Aa h.ok;clear h hvc;go_enter Tryz.func214,Tryz.ntmps214;go_wp2_with fail
 go_loopw [17] (fun i wr=>InA w mb O L s axis i wr) (fun i _=>s.cont.length-(intOf i).toNat)
 case atStart=>exact H0.out
 case round =>
  clear H0 c6;obtain⟨k,hk,rfl,hM,hfr⟩:=hrel;have HM:=Aa hM;have HF:=Aa hfr;by_cases hlt:(k:Int)<s.cont.length
  ·obtain⟨c,hc⟩:∃ c,s.cont[k]?=some c:=⟨_,List.getElem?_eq_getElem (by omega)⟩;obtain⟨hc1,hc2⟩:=HOK.out.cont c (List.mem_of_getElem? hc);obtain⟨gc,cc',hv',hcc,_,_,hgl,hcells,_⟩:=hM.co.at_ (by simp only;omega);rw[HVC.out] at hv'
   injection hv' with e1 _ e2
   subst e1 e2;have x0:=hcells _ _ (Jy hc).1;have x1:=hcells _ _ (Jy hc).2;have HOlt:=Aa hM.olt;have HT:Hid (s.cont.take (k+1)=s.cont.take k++[c]):=Aa (by rw[List.take_add_one,hc];rfl);have hmb:=hM.blk.lt;generalize hck:(s.cont.take k).foldl (fun cur c=>Ft s.org s.touch axis cur c) s.cur=ck at *;have HCK:=Aa hck;obtain⟨c1,c2⟩:=c;dsimp only at hc1 hc2 x0 x1;clear hM hfr hcells hc hck;go_wp2_with fail
   generalize hs1:({ s with cur:=ck }:St)=s1 at HM;have es1:s1.org=s.org∧s1.touch=s.touch∧s1.cur=ck∧s1.cur.length=s.cur.length:=by subst hs1;exact⟨rfl,rfl,rfl,by have:=HM.out.ok.orgl;have:=HOK.out.orgl;simp only at *;omega⟩
   have HS1:=Aa hs1;clear hs1;have HB0:Hid (InB w mb O L s1 axis (c1,c2) wr.heap.size (.slice none 0 0) (.int .i64 c1) (wr.alloc (.cells #[.int .i64 c1,.int .i64 c2] 252))):=Aa ⟨c1,none,0,Ad,by simp only;omega,rfl,by simp[fx],by simpa [fx] using OwnAt.nil _ _ _ _,HM.out.alloc _,Blk.new _ _ _,HF.out.alloc _⟩;generalize wr.alloc (.cells #[.int .i64 c1,.int .i64 c2] 252)=w1 at *;generalize hcb:wr.heap.size=cb at *;have hwcb:w.heap.size≤cb:=by have:=HF.out.size;omega
   have hcno:¬ O cb:=fun e=>by have:=HOlt.out cb e;omega
   have HNO:=Aa (show ∀ k,cb≤k→¬ O k from fun k hk e=>by have:=HOlt.out k e;omega);have HNOC:=Aa hcno;clear HM HF HOlt x0 x1 hgl hcb hcno;go_loopw [6,7] (fun v p wq=>InB w mb O L s1 axis (c1,c2) cb v p wq) (fun _ p _=>c2+1-(intOf p).toNat)
   case atStart=>exact HB0.out
   case round =>
    clear HB0;obtain⟨q,A,ac,hq1,hq2,rfl,rfl,hown,hma,hblk,hfr⟩:=hrel;dsimp only at hq1 hq2 hown;have HMA:=Aa hma;have HBK:=Aa hblk;have HFR:=Aa hfr;have HOW:=Aa hown;have k0:=Ab hblk 0 rfl;have k1:=Ab hblk 1 rfl;have hcbl:=hblk.lt;by_cases hle:(q:Int)≤(c2:Int)
    ·have hql:q<s1.touch.length:=by rw[hma.ok.tl,es1.2.2.2];omega
     obtain⟨t,ht⟩:∃ t,s1.touch[q]?=some t:=⟨_,List.getElem?_eq_getElem hql⟩;have htt:=hma.ok.touch t (List.mem_of_getElem? ht);obtain⟨gt,ct,hvt,hct1,_,hgtO,hgtl,htc,_⟩:=hma.to.at_ (by omega);have d0:=htc _ _ (Bf ht);have c4:=hma.blk.cell 4;rw[hma.c.c4,hvt] at c4;have hmbl:=hma.blk.lt;have htl:=hma.ok.tl;rw[es1.2.2.2] at htl;have hqi:(q:Int)<(s1.touch.length:Int):=by omega
     have HFX:=Aa (Xp s1.touch axis c1 (q-c1));rw[show q-c1+c1=q by omega,Bs ht,show q-c1+1=q+1-c1 by omega] at HFX;have HBT:=Aa (Rt ha htt);have ES1:=Aa es1;have HTL:=Aa htl;clear hma hblk hfr hown ht htc hvt es1 htl;go_wp2_with fail
     go_region_held3 (fun w'=>w'.cell? ⟨mb,4,none⟩=some (.slice (some ⟨gt,0,none⟩) s1.touch.length ct)∧w'.cell? ⟨gt,q,none⟩=some (.int .i64 t)) (go_keep)
      (first|(go_at_call 255;refine(Iu _ _ ha.1 ha.2).mono ?_;rintro e w5 ⟨rfl,rfl⟩))
     rename_i hSS;clear hSS c4 d0;have HMD:=Aa HMA.out.drew;have HBD:=Aa HBK.out.drew;have HFD:=Aa HFR.out.drew;have HOD:=Aa (HOW.out.below ((Below.refl wr.heap.size wr).drew) Ad);have hzz:wr.drew.heap.size=wr.heap.size:=rfl;have hfl:=Rh s1.touch axis c1 (q-c1);have HMAP:Hid (((fx s1.touch axis c1 (q-c1)).map Int.ofNat).length=(fx s1.touch axis c1 (q-c1)).length):=Aa (List.length_map _);generalize hfx:fx s1.touch axis c1 (q-c1)=F at *;by_cases hbb:(bits BinOp.and .i64 t (axis+1) !=0)=true
     ·rw[hbb] at HBT;rw[←HBT.out,if_pos rfl] at HFX;have HOA:=Aa (HOD.out.below ((Below.refl wr.drew.heap.size wr.drew).alloc Ad (.cells #[.int .i64 (q:Int)] 3)) Ad);have HOB:Hid (OwnAt (Repr.int (N0:=0)) 3 (cb+1) (wr.drew.alloc (.cells #[.int .i64 (q:Int)] 3)) (.slice A (F.map Int.ofNat).length ac) (F.map Int.ofNat)):=Aa (by rw[HMAP.out];exact HOA.out);have hFl:(F.map Int.ofNat).length≤1000000:=by rw[HMAP.out];omega
      clear hfx HOW HMA HBK HFR HOD HOA;rw[←HMAP.out];go_wp2_with (at_builtin;refine Iq _ rfl (.tmp 41) (.tmp 43) _ rfl (Repr.int (N0:=0)) (cb+1) 3 i0 _ 8 Tryz.underlying22 hi0 hi1 hi2 hi3 rfl (show 0<1 by decide) (by simp[Repr.int]) (Nat.zero_le _) (.slice A (F.map Int.ofNat).length ac) (F.map Int.ofNat) rfl HOB.out wr.heap.size [_] (q:Int) rfl (Blk.new _ _ _) ⟨rfl,(by unfold I64;omega)⟩ (by unfold maxLen;omega) (by omega) (by simp;omega) ?_;intro A3 c3 w3 hown3 hg3)
      have hrow:∀ g,(Value.slice A (F.map Int.ofNat).length ac).ownBlock=some g→cb<g:=fun g e=>(HOB.out.block e).1
      have hMA:=HMD.out.alloc (.cells #[.int .i64 (q:Int)] 3);have hgk:∀ k,k≤cb→w3.heap[k]?=(wr.drew.alloc (.cells #[.int .i64 (q:Int)] 3)).heap[k]?:=fun k hk=>hg3.block k (by simp;omega) (fun e=>by have:=hrow k e.symm;omega)
      have hgz:(wr.drew.alloc (.cells #[.int .i64 (q:Int)] 3)).heap.size≤w3.heap.size:=hg3.size;refine⟨⟨q+1,A3,c3,by simp only;omega,by simp only;omega,by go_num,?_,?_,?_,?_,?_⟩,by simp[intOf];omega⟩
      ·simp only[HFX.out,List.length_append,List.length_singleton]
      ·simp only[HFX.out,List.map_append,List.map_cons,List.map_nil];rw[←HMAP.out];exact hown3
      ·refine hMA.keep (fun k hk=>hgk k ?_) (fun _ h=>h) (fun k hk=>Nat.lt_of_lt_of_le (hMA.olt k hk) hgz);rcases Nat.lt_or_ge cb k with h|h
       ·exact absurd hk (HNO.out k (by omega))
       ·exact h
      ·exact(hgk cb Ad).trans (HBD.out.alloc _)
      ·have hFA:=HFD.out.alloc (.cells #[.int .i64 (q:Int)] 3);exact⟨hg3.os.trans hFA.os,hg3.tape.trans hFA.tape,hg3.output.trans hFA.output,Nat.le_trans hFA.size hgz,fun k hk hs=>(hgk k (by omega)).trans (hFA.block k hk hs)⟩
     ·have hbb':(bits BinOp.and .i64 t (axis+1) !=0)=false:=by simpa using hbb
      rw[hbb'] at HBT;rw[←HBT.out] at HFX;simp only[Bool.false_eq_true,if_false,List.append_nil] at HFX;go_wp2_with fail
      refine⟨⟨q+1,A,ac,by simp only;omega,by simp only;omega,by go_num,?_,?_,HMD.out,HBD.out,HFD.out⟩,by simp[intOf];omega⟩
      ·simp only[HFX.out]
      ·simp only[HFX.out];exact HOD.out
    ·obtain⟨g,A',ac',hve,hlc,hgb,hcell⟩:=hown.ints;simp only[List.length_map] at hve hlc
     injection hve with e1 _ e2
     subst e1 e2;have hqe:q-c1=c2+1-c1:=by omega
     rw[hqe] at hcell hlc;have hfl:=Rh s1.touch axis c1 (c2+1-c1);have HFM:Hid (∀ p∈fx s1.touch axis c1 (c2+1-c1),c1≤p∧p≤c2):=Aa (fun p hp=>by have:=Zcc hp;omega);have HCE:=Aa (Lc s1.org s1.touch axis s1.cur (c1,c2));simp only at HCE;rw[hqe];generalize hfx:fx s1.touch axis c1 (c2+1-c1)=F at *;have HJ:Hid (InC w mb O L s1 axis (c1,c2) cb g F s1.cur (.int .i64 0) wr):=Aa ⟨0,Nat.zero_le _,rfl,by
      refine⟨by simpa [Qp] using hma,fun i x hx=>?_,hblk,hfr,HNO.out g (by omega),HNOC.out⟩;have:=hcell i (x:Int) (by rw[List.getElem?_map,hx];rfl);exact this.2⟩
     have hA:0<F.length→A=some ⟨g,0,none⟩:=fun h0=>(hcell 0 (F[0]:Int) (by rw[List.getElem?_map,List.getElem?_eq_getElem h0];rfl)).1
     have HA:=Aa hA;have ES1:=Aa es1;clear hma hblk hfr hown hcell hA hfx HMA HBK HFR HOW hqe es1;go_wp2_with fail
     clear k0 k1 hcbl;go_loopw [47] (fun i wq=>InC w mb O L s1 axis (c1,c2) cb g F s1.cur i wq) (fun i _=>F.length-(intOf i).toNat)
     case atStart=>exact HJ.out
     case round =>
      clear HJ;obtain⟨j,hj,rfl,hjn⟩:=hrel;have HJN:=Aa hjn;by_cases hjl:(j:Int)<F.length
      ·obtain⟨a,hFa⟩:∃ a,F[j]?=some a:=⟨_,List.getElem?_eq_getElem (by omega)⟩;have hjm:(j+1) % F.length<F.length:=Nat.mod_lt _ (by omega);obtain⟨b,hFb⟩:∃ b,F[(j+1) % F.length]?=some b:=⟨_,List.getElem?_eq_getElem hjm⟩;obtain⟨ha1,ha2⟩:=HFM.out a (List.mem_of_getElem? hFa);obtain⟨hb1,hb2⟩:=HFM.out b (List.mem_of_getElem? hFb);have HSS:=Aa (Mv (org:=s1.org) (axis:=axis) (c:=(c1,c2)) (cur:=s1.cur) hFa hFb);have m0:=(hjn.fix _ _ hFa).2;have m1:=(hjn.fix _ _ hFb).2;have hgl:=(hjn.fix _ _ hFa).1;have k0:=Ab hjn.blk 0 rfl;have k1:=Ab hjn.blk 1 rfl;have hcbl:=hjn.blk.lt;have hAe:=HA.out (by omega);subst hAe;have hmod:Int.tmod ((j:Int)+1) (F.length:Int)=(((j+1) % F.length:Nat):Int):=by
        rw[Int.tmod_eq_emod_of_nonneg (by omega)];simp
       have hF0:¬ (F.length:Int)=0:=by omega
       have hjmi:(((j+1) % F.length:Nat):Int)<(F.length:Int):=by omega
       generalize (j+1) % F.length=jm at *;clear hjn hFa hFb;go_wp2_with fail
       refine(Lf (c1,c2) a _ (by omega)).mono ?_;rintro e w2 ⟨rfl,hbl⟩;have hbe:c1≤Bx (c1,c2) a∧Bx (c1,c2) a≤c2:=by unfold Bx;split <;> simp only at * <;> omega
       have HD0:Hid (InD w mb O L s1 axis (c1,c2) cb g F a b (Qp s1.org F axis (c1,c2) s1.cur (j+1)) (.int .i64 (Bx (c1,c2) a)) w2):=Aa ⟨_,_,_,hbe.1,hbe.2,rfl,Xy hbe.1 hbe.2 hb1 hb2,HSS.out.symm,HJN.out.below hbl⟩;clear HJN HSS m0 m1 k0 k1 hgl hcbl hbl hmod hF0 hjmi hjm hbe;generalize Bx (c1,c2) a=p0 at *;go_wp2_with fail
       go_loopw [11] (fun p wq=>InD w mb O L s1 axis (c1,c2) cb g F a b (Qp s1.org F axis (c1,c2) s1.cur (j+1)) p wq) (fun p _=>Zbj (c1,c2) b (intOf p).toNat)
       case atStart=>exact HD0.out
       case round =>
        clear HD0;obtain⟨p,n,cur,hp1,hp2,rfl,hdn,hseg,hjn⟩:=hrel;dsimp only at hp1 hp2;by_cases hpb:p=b
        ·subst hpb;rw[Vf] at hseg;subst hseg;have HJE:Hid (InC w mb O L s1 axis (c1,c2) cb g F s1.cur (.int .i64 ((j:Int)+1)) wr):=Aa ⟨j+1,by omega,by simp,hjn⟩;clear hjn;go_wp2;go_roundw
         case rel=>exact HJE.out
         case measure=>simp[intOf];omega
        ·have hpb':¬ (p:Int)=(b:Int):=by omega
         obtain⟨hst,hbe1,hbe2⟩:=Ns (c:=(c1,c2)) (b:=b) (p:=p) hc1 hp1 hp2 hb1 hb2 hpb;obtain⟨n',rfl⟩:∃ n',n=n'+1:=⟨n-1,by omega⟩;rw[Qq hpb] at hseg;have hol:=hjn.ma.ok.orgl;have hcl:=ES1.out.2.2.2;simp only at hol;have hol2:s1.org.length=s1.cur.length:=by rw[ES1.out.1,HOK.out.orgl];omega
         have get1:∀ i,i≤c2→∃ x,s1.org[i]?=some x:=fun i hi=>⟨_,List.getElem?_eq_getElem (by omega)⟩
         have get2:∀ i,i≤c2→∃ x,cur[i]?=some x:=fun i hi=>⟨_,List.getElem?_eq_getElem (by omega)⟩
         obtain⟨xp,hxp⟩:=get1 p hp2;obtain⟨xa,hxa⟩:=get1 a ha2;obtain⟨xb,hxb⟩:=get1 b hb2;obtain⟨yp,hyp⟩:=get2 p hp2;obtain⟨ya,hya⟩:=get2 a ha2;obtain⟨yb,hyb⟩:=get2 b hb2;have HC:=Aa (Qc wr mb O L { s1 with cur:=cur } hjn.ma axis p a b xp xa xb yp ya yb hxp hxa hxb hyp hya hyb);have HJN:=Aa hjn;have HST:=Aa hst;have HSG:=Aa hseg;clear hjn hst hseg hxp hxa hxb hyp hya hyb get1 get2 hol hcl hol2;go_wp2_with fail
         refine HC.out.mono ?_;rintro e w2 ⟨rfl,hm2,hf2⟩;have HJ2:=Aa (HJN.out.go hf2 hm2);clear HC HJN hm2 hf2;have k0:=Ab HJ2.out.blk 0 rfl;have k1:=Ab HJ2.out.blk 1 rfl;have hcbl:=HJ2.out.blk.lt;go_wp2_with fail
         refine(Lf (c1,c2) p _ (by omega)).mono ?_;rintro e w3 ⟨rfl,hbl⟩;have HJ3:=Aa (HJ2.out.below hbl);clear k0 k1 hcbl hbl HJ2;have HDN:Hid (InD w mb O L s1 axis (c1,c2) cb g F a b (Qp s1.org F axis (c1,c2) s1.cur (j+1)) (.int .i64 (Bx (c1,c2) p)) w3):=Aa ⟨_,n',_,hbe1,hbe2,rfl,by have:=HST.out;omega,HSG.out,HJ3.out⟩;clear HJ3 HSG;generalize Bx (c1,c2) p=p1 at *;go_wp2;go_roundw
         case rel=>exact HDN.out
         case measure=>have:=HST.out;simp[intOf];omega
      ·have hje:j=F.length:=by omega
       subst hje;rw[←HCE.out] at hjn;have HAE:Hid (InA w mb O L s axis (.int .i64 ((k:Int)+1)) wr):=Aa ⟨k+1,by omega,by simp,by
        rw[HT.out,List.foldl_append];simp only[List.foldl_cons,List.foldl_nil];rw[HCK.out,←ES1.out.2.2.1,←ES1.out.1,←ES1.out.2.1];have:=hjn.ma;rw[←HS1.out] at this ⊢;exact this,hjn.fr⟩
       clear hjn;go_wp2;go_roundw
       case rel=>exact HAE.out
       case measure=>simp[intOf];omega
  ·go_wp2;go_end0;refine⟨rfl,?_,hfr⟩;rw[List.take_of_length_le (by omega)] at hM;exact hM
end Go.Proofs.YtnhebmgibiomnaaGreat
namespace Go.Proofs.YtnhebmgibiomnaaGreat
open Go.RowKit Mc
theorem Iz (c:Nat×Nat) (p:Nat) (w:World) (hp:p≤1000000) :
  Calls Tryz.prog 229 #[.agg #[.int .i64 c.1,.int .i64 c.2],.int .i64 p] w fun e w'=>e=.returned (.int .i64 (Bx c p))∧Below w.heap.size w w':=by
 obtain⟨c1,c2⟩:=c;by_cases h:p=c2
 ·have HB:Hid (Bx (c1,c2) p=c1):=Aa (by unfold Bx;rw[if_pos h]);subst h;go_enter Tryz.func229,Tryz.ntmps229;go_wp2;go_ret;exact⟨Dg (by rw[HB.out]),aliasBr.alloc Ad _⟩
 ·have HB:Hid (Bx (c1,c2) p=p+1):=Aa (by unfold Bx;rw[if_neg h]);have h':¬ (p:Int)=(c2:Int):=by omega
  go_enter Tryz.func229,Tryz.ntmps229;go_wp2;go_ret;exact⟨Dg (by rw[HB.out];simp),aliasBr.alloc Ad _⟩
theorem Zw {axis:Int} (ha:0≤axis∧axis≤1):RowKit.wrap64 (2 ^ min axis.toNat 64)=axis+1:=by
 obtain⟨h0,h1⟩:=ha;rcases(show axis=0∨axis=1 by omega) with rfl|rfl <;> simp[RowKit.wrap64]
theorem Va {axis:Int} (ha:0≤axis∧axis≤1):RowKit.wrap64 (2 ^ axis.toNat)=axis+1:=by
 obtain⟨h0,h1⟩:=ha;rcases(show axis=0∨axis=1 by omega) with rfl|rfl <;> simp[RowKit.wrap64]
theorem SrL.olt {w:World} {sb:Nat} {L:SLay} {s:Sr.St} (h:SrL w sb L s) {k:Nat} (hk:SrS L sb k):k<w.heap.size:=h.lt (by
 rcases hk with e|e|e|e|e
 ·exact .inl e
 ·exact .inr (.inr (.inl e))
 ·exact .inr (.inr (.inr (.inl e)))
 ·exact .inr (.inr (.inr (.inr (.inr (.inr (.inl e))))))
 ·exact .inr (.inr (.inr (.inr (.inr (.inr (.inr e)))))))
theorem SrL.drewN {w:World} {sb:Nat} {L:SLay} {s:Sr.St} (h:SrL w sb L s) (n:Nat):SrL (w.drewN n) sb L s:=h.keep fun _ _=>rfl
theorem SrL.below {w w':World} {sb:Nat} {L:SLay} {s:Sr.St} (h:SrL w sb L s) (hb:Below w.heap.size w w'):SrL w' sb L s:=h.keep fun k hk=>hb.block k (h.lt hk)
def SInA (w:World) (sb:Nat) (L:SLay) (s:Sr.St) (axis:Int) (i:Value) (wr:World):Prop :=
 ∃ k:Nat,k≤s.m.cont.length∧i=.int .i64 k∧SrL wr sb L { s with m := { s.m with cur:=(s.m.cont.take k).foldl (fun cur c=>Ft s.m.org s.m.touch axis cur c) s.m.cur } }∧Fr (SrS L sb) w wr
def SInB (w:World) (sb:Nat) (L:SLay) (s:Sr.St) (axis:Int) (c:Nat×Nat) (cb:Nat) (v p:Value) (wq:World):Prop :=
 ∃ (q:Nat) (A:Option Addr) (cc:Nat),c.1≤q∧q≤c.2+1∧p=.int .i64 q∧v=.slice A (fx s.m.touch axis c.1 (q-c.1)).length cc∧OwnAt (Repr.int (N0:=0)) 3 (cb+1) wq v ((fx s.m.touch axis c.1 (q-c.1)).map Int.ofNat) ∧
  SrL wq sb L s∧Blk wq cb 157 #[.int .i64 c.1,.int .i64 c.2]∧Fr (SrS L sb) w wq
structure SJn (w:World) (sb:Nat) (L:SLay) (s:Sr.St) (c:Nat×Nat) (cb g:Nat) (l:List Nat) (cur:List (Int×Int)) (wq:World):Prop where
 ma:SrL wq sb L { s with m := { s.m with cur:=cur } }
 fix:∀ (i x:Nat),l[i]?=some x→g<wq.heap.size∧wq.cell? ⟨g,i,none⟩=some (.int .i64 x)
 blk:Blk wq cb 157 #[.int .i64 c.1,.int .i64 c.2]
 fr:Fr (SrS L sb) w wq
 gno:¬ SrS L sb g
 cno:¬ SrS L sb cb
section
variable {w wq w2 : World} {sb : Nat} {L : SLay} {s : Sr.St} {c : Nat × Nat} {cb g : Nat} {l : List Nat} {cur cur' : List (Int × Int)}
theorem SJn.go (h:SJn w sb L s c cb g l cur wq) (hf:Fr (SrS L sb) wq w2) (hm:SrL w2 sb L { s with m := { s.m with cur:=cur' } }):SJn w sb L s c cb g l cur' w2 :=
 ⟨hm,fun i x hx=>⟨Nat.lt_of_lt_of_le (h.fix i x hx).1 hf.size,(hf.cell (p:=⟨g,i,none⟩) (h.fix i x hx).1 h.gno).trans (h.fix i x hx).2⟩,hf.blk h.blk h.cno,h.fr.trans hf,h.gno,h.cno⟩
theorem SJn.below (h:SJn w sb L s c cb g l cur wq) (hb:Below wq.heap.size wq w2):SJn w sb L s c cb g l cur w2 :=
 h.go (Fr.of_below hb (fun _ hk _=>hk)) (h.ma.below hb)
end
def SInC (w:World) (sb:Nat) (L:SLay) (s:Sr.St) (axis:Int) (c:Nat×Nat) (cb g:Nat) (l:List Nat) (cur:List (Int×Int)) (i:Value) (wq:World):Prop :=
 ∃ k:Nat,k≤l.length∧i=.int .i64 k∧SJn w sb L s c cb g l (Qp s.m.org l axis c cur k) wq
def SInD (w:World) (sb:Nat) (L:SLay) (s:Sr.St) (axis:Int) (c:Nat×Nat) (cb g:Nat) (l:List Nat) (a b:Nat) (T:List (Int×Int)) (p:Value) (wq:World):Prop :=
 ∃ (q n:Nat) (cur:List (Int×Int)),c.1≤q∧q≤c.2∧p=.int .i64 q∧Zbj c b q≤n∧seg s.m.org axis c a b n q cur=T∧SJn w sb L s c cb g l cur wq
theorem So (w:World) (sb:Nat) (L:SLay) (s:Sr.St) (h:SrL w sb L s) (axis:Int) (ha:0≤axis∧axis≤1) :
  Calls Tryz.prog 147 #[.pointer (some ⟨sb,0,none⟩),.int .i64 axis] w (SPost w sb L { s with m:=Ki s.m axis }):=by
 have H0:Hid (SInA w sb L s axis (.int .i64 0) w):=Aa ⟨0,Nat.zero_le _,rfl,by simpa using h,Fr.refl _ _⟩;obtain⟨i0,hi0,hi1,hi2,hi3⟩:=Dc Gb;obtain⟨Ac,cc,hvc,_,_⟩:=Ae h.co;have c6:=h.c68;rw[hvc] at c6;have HVC:=Aa hvc;have hctl:=h.ok.m.contl;have hcul:=h.ok.m.curl;have HOK:=Aa h.ok.m;clear h hvc;go_enter Tryz.func147,Tryz.ntmps147;go_wp2_with fail
 go_loopw [17] (fun i wr=>SInA w sb L s axis i wr) (fun i _=>s.m.cont.length-(intOf i).toNat)
 case atStart=>exact H0.out
 case round =>
  clear H0 c6;obtain⟨k,hk,rfl,hM,hfr⟩:=hrel;have HM:=Aa hM;have HF:=Aa hfr;by_cases hlt:(k:Int)<s.m.cont.length
  ·obtain⟨c,hc⟩:∃ c,s.m.cont[k]?=some c:=⟨_,List.getElem?_eq_getElem (by omega)⟩;obtain⟨hc1,hc2⟩:=HOK.out.cont c (List.mem_of_getElem? hc);obtain⟨gc,cc',hv',hcc,_,hgl,hcells⟩:=Bb hM.co (by simp only;omega);rw[HVC.out] at hv'
   injection hv' with e1 _ e2
   subst e1 e2;have x0:=hcells _ _ (Jy hc).1;have x1:=hcells _ _ (Jy hc).2;have HLT:=Aa (show ∀ k,(k=sb∨L.og.ownBlock=some k∨L.cu.ownBlock=some k∨L.tq.ownBlock=some k∨L.en.ownBlock=some k∨L.co.ownBlock=some k∨L.cv.ownBlock=some k∨L.st.ownBlock=some k)→k<wr.heap.size from fun k hk=>hM.lt hk);have HOlt:=Aa (show ∀ k,SrS L sb k→k<wr.heap.size from fun k hk=>hM.olt hk);have HT:Hid (s.m.cont.take (k+1)=s.m.cont.take k++[c]):=Aa (by rw[List.take_add_one,hc];rfl);have hmb:=hM.blk.lt;generalize hck:(s.m.cont.take k).foldl (fun cur c=>Ft s.m.org s.m.touch axis cur c) s.m.cur=ck at *;have HCK:=Aa hck;obtain⟨c1,c2⟩:=c;dsimp only at hc1 hc2 x0 x1;clear hM hfr hcells hc hck;go_wp2_with fail
   generalize hs1:({ s with m := { s.m with cur:=ck } }:Sr.St)=s1 at HM;have es1:s1.m.org=s.m.org∧s1.m.touch=s.m.touch∧s1.m.cur=ck∧s1.m.cur.length=s.m.cur.length:=by subst hs1;exact⟨rfl,rfl,rfl,by have:=HM.out.ok.m.orgl;have:=HOK.out.orgl;simp only at *;omega⟩
   have HS1:=Aa hs1;clear hs1;have HB0:Hid (SInB w sb L s1 axis (c1,c2) wr.heap.size (.slice none 0 0) (.int .i64 c1) (wr.alloc (.cells #[.int .i64 c1,.int .i64 c2] 157))):=Aa ⟨c1,none,0,Ad,by simp only;omega,rfl,by simp[fx],by simpa [fx] using OwnAt.nil _ _ _ _,HM.out.alloc _,Blk.new _ _ _,HF.out.alloc _⟩;generalize wr.alloc (.cells #[.int .i64 c1,.int .i64 c2] 157)=w1 at *;generalize hcb:wr.heap.size=cb at *;have hwcb:w.heap.size≤cb:=by have:=HF.out.size;omega
   have hcno:¬ SrS L sb cb:=fun e=>by have:=HOlt.out cb e;omega
   have HNO:=Aa (show ∀ k,cb≤k→¬ SrS L sb k from fun k hk e=>by have:=HOlt.out k e;omega);have HNOC:=Aa hcno;have HLE:=Aa (show ∀ k,(k=sb∨L.og.ownBlock=some k∨L.cu.ownBlock=some k∨L.tq.ownBlock=some k∨L.en.ownBlock=some k∨L.co.ownBlock=some k∨L.cv.ownBlock=some k∨L.st.ownBlock=some k)→k≤cb from fun k hk=>by have:=HLT.out k hk;omega);clear HM HF HOlt x0 x1 hgl hcb hcno;go_loopw [6,7] (fun v p wq=>SInB w sb L s1 axis (c1,c2) cb v p wq) (fun _ p _=>c2+1-(intOf p).toNat)
   case atStart=>exact HB0.out
   case round =>
    clear HB0;obtain⟨q,A,ac,hq1,hq2,rfl,rfl,hown,hma,hblk,hfr⟩:=hrel;dsimp only at hq1 hq2 hown;have HMA:=Aa hma;have HBK:=Aa hblk;have HFR:=Aa hfr;have HOW:=Aa hown;have k0:=Ab hblk 0 rfl;have k1:=Ab hblk 1 rfl;have hcbl:=hblk.lt;by_cases hle:(q:Int)≤(c2:Int)
    ·have hql:q<s1.m.touch.length:=by rw[hma.ok.m.tl,es1.2.2.2];omega
     obtain⟨t,ht⟩:∃ t,s1.m.touch[q]?=some t:=⟨_,List.getElem?_eq_getElem hql⟩;have htt:=hma.ok.m.touch t (List.mem_of_getElem? ht);obtain⟨gt,ct,hvt,hct1,_,hgtl,htc⟩:=Bb hma.tq (by omega);have d0:=htc _ _ (Bf ht);have c4:=hma.c66;rw[hvt] at c4;have hmbl:=hma.blk.lt;have htl:=hma.ok.m.tl;rw[es1.2.2.2] at htl;have hqi:(q:Int)<(s1.m.touch.length:Int):=by omega
     have HFX:=Aa (Xp s1.m.touch axis c1 (q-c1));rw[show q-c1+c1=q by omega,Bs ht,show q-c1+1=q+1-c1 by omega] at HFX;have HBT:=Aa (Rt ha htt);have ES1:=Aa es1;have HTL:=Aa htl;clear hma hblk hfr hown ht htc hvt es1 htl;go_wp2_with fail
     have hsh:=Zw ha;have hsh':=Va ha;go_quiet (fail);rename_i nq;clear c4 d0 hsh hsh';have HMD:=Aa (HMA.out.drewN nq);have HBD:=Aa (show Blk (wr.drewN nq) cb 157 #[.int .i64 c1,.int .i64 c2] from HBK.out);have HFD:=Aa (show Fr (SrS L sb) w (wr.drewN nq) from HFR.out.trans ⟨rfl,rfl,rfl,Ad,fun _ _ _=>rfl⟩);have HOD:=Aa (HOW.out.below (below_drewN (Below.refl wr.heap.size wr) nq) Ad);have hzz:(wr.drewN nq).heap.size=wr.heap.size:=rfl;have hfl:=Rh s1.m.touch axis c1 (q-c1);have HMAP:Hid (((fx s1.m.touch axis c1 (q-c1)).map Int.ofNat).length=(fx s1.m.touch axis c1 (q-c1)).length):=Aa (List.length_map _);generalize hfx:fx s1.m.touch axis c1 (q-c1)=F at *;by_cases hbb:(bits BinOp.and .i64 t (axis+1) !=0)=true
     ·rw[hbb] at HBT;rw[←HBT.out,if_pos rfl] at HFX;have HOA:=Aa (HOD.out.below ((Below.refl (wr.drewN nq).heap.size (wr.drewN nq)).alloc Ad (.cells #[.int .i64 (q:Int)] 3)) Ad);have HOB:Hid (OwnAt (Repr.int (N0:=0)) 3 (cb+1) ((wr.drewN nq).alloc (.cells #[.int .i64 (q:Int)] 3)) (.slice A (F.map Int.ofNat).length ac) (F.map Int.ofNat)):=Aa (by rw[HMAP.out];exact HOA.out);have hFl:(F.map Int.ofNat).length≤1000000:=by rw[HMAP.out];omega
      clear hfx HOW HMA HBK HFR HOD HOA;rw[←HMAP.out];go_wp2_with (at_builtin;refine Iq _ rfl (.tmp 41) (.tmp 43) _ rfl (Repr.int (N0:=0)) (cb+1) 3 i0 _ 8 Tryz.underlying22 hi0 hi1 hi2 hi3 rfl (show 0<1 by decide) (by simp[Repr.int]) (Nat.zero_le _) (.slice A (F.map Int.ofNat).length ac) (F.map Int.ofNat) rfl HOB.out wr.heap.size [_] (q:Int) rfl (Blk.new _ _ _) ⟨rfl,(by unfold I64;omega)⟩ (by unfold maxLen;omega) (by omega) (by simp;omega) ?_;intro A3 c3 w3 hown3 hg3)
      have hrow:∀ g,(Value.slice A (F.map Int.ofNat).length ac).ownBlock=some g→cb<g:=fun g e=>(HOB.out.block e).1
      have hMA:=HMD.out.alloc (.cells #[.int .i64 (q:Int)] 3);have hgk:∀ k,k≤cb→w3.heap[k]?=((wr.drewN nq).alloc (.cells #[.int .i64 (q:Int)] 3)).heap[k]?:=fun k hk=>hg3.block k (by simp;omega) (fun e=>by have:=hrow k e.symm;omega)
      have hgz:((wr.drewN nq).alloc (.cells #[.int .i64 (q:Int)] 3)).heap.size≤w3.heap.size:=hg3.size;refine⟨⟨q+1,A3,c3,by simp only;omega,by simp only;omega,by go_num,?_,?_,?_,?_,?_⟩,by simp[intOf];omega⟩
      ·simp only[HFX.out,List.length_append,List.length_singleton]
      ·simp only[HFX.out,List.map_append,List.map_cons,List.map_nil];rw[←HMAP.out];exact hown3
      ·exact hMA.keep fun k hk=>hgk k (HLE.out k hk)
      ·exact(hgk cb Ad).trans (HBD.out.alloc _)
      ·have hFA:=HFD.out.alloc (.cells #[.int .i64 (q:Int)] 3);exact⟨hg3.os.trans hFA.os,hg3.tape.trans hFA.tape,hg3.output.trans hFA.output,Nat.le_trans hFA.size hgz,fun k hk hs=>(hgk k (by omega)).trans (hFA.block k hk hs)⟩
     ·have hbb':(bits BinOp.and .i64 t (axis+1) !=0)=false:=by simpa using hbb
      rw[hbb'] at HBT;rw[←HBT.out] at HFX;simp only[Bool.false_eq_true,if_false,List.append_nil] at HFX;go_wp2_with fail
      refine⟨⟨q+1,A,ac,by simp only;omega,by simp only;omega,by go_num,?_,?_,HMD.out,HBD.out,HFD.out⟩,by simp[intOf];omega⟩
      ·simp only[HFX.out]
      ·simp only[HFX.out];exact HOD.out
    ·obtain⟨g,A',ac',hve,hlc,hgb,hcell⟩:=hown.ints;simp only[List.length_map] at hve hlc
     injection hve with e1 _ e2
     subst e1 e2;have hqe:q-c1=c2+1-c1:=by omega
     rw[hqe] at hcell hlc;have hfl:=Rh s1.m.touch axis c1 (c2+1-c1);have HFM:Hid (∀ p∈fx s1.m.touch axis c1 (c2+1-c1),c1≤p∧p≤c2):=Aa (fun p hp=>by have:=Zcc hp;omega);have HCE:=Aa (Lc s1.m.org s1.m.touch axis s1.m.cur (c1,c2));simp only at HCE;rw[hqe];generalize hfx:fx s1.m.touch axis c1 (c2+1-c1)=F at *;have HJ:Hid (SInC w sb L s1 axis (c1,c2) cb g F s1.m.cur (.int .i64 0) wr):=Aa ⟨0,Nat.zero_le _,rfl,by
      refine⟨by simpa [Qp] using hma,fun i x hx=>?_,hblk,hfr,HNO.out g (by omega),HNOC.out⟩;have:=hcell i (x:Int) (by rw[List.getElem?_map,hx];rfl);exact this.2⟩
     have hA:0<F.length→A=some ⟨g,0,none⟩:=fun h0=>(hcell 0 (F[0]:Int) (by rw[List.getElem?_map,List.getElem?_eq_getElem h0];rfl)).1
     have HA:=Aa hA;have ES1:=Aa es1;clear hma hblk hfr hown hcell hA hfx HMA HBK HFR HOW hqe es1;go_wp2_with fail
     clear k0 k1 hcbl;go_loopw [47] (fun i wq=>SInC w sb L s1 axis (c1,c2) cb g F s1.m.cur i wq) (fun i _=>F.length-(intOf i).toNat)
     case atStart=>exact HJ.out
     case round =>
      clear HJ;obtain⟨j,hj,rfl,hjn⟩:=hrel;have HJN:=Aa hjn;by_cases hjl:(j:Int)<F.length
      ·obtain⟨a,hFa⟩:∃ a,F[j]?=some a:=⟨_,List.getElem?_eq_getElem (by omega)⟩;have hjm:(j+1) % F.length<F.length:=Nat.mod_lt _ (by omega);obtain⟨b,hFb⟩:∃ b,F[(j+1) % F.length]?=some b:=⟨_,List.getElem?_eq_getElem hjm⟩;obtain⟨ha1,ha2⟩:=HFM.out a (List.mem_of_getElem? hFa);obtain⟨hb1,hb2⟩:=HFM.out b (List.mem_of_getElem? hFb);have HSS:=Aa (Mv (org:=s1.m.org) (axis:=axis) (c:=(c1,c2)) (cur:=s1.m.cur) hFa hFb);have m0:=(hjn.fix _ _ hFa).2;have m1:=(hjn.fix _ _ hFb).2;have hgl:=(hjn.fix _ _ hFa).1;have k0:=Ab hjn.blk 0 rfl;have k1:=Ab hjn.blk 1 rfl;have hcbl:=hjn.blk.lt;have hAe:=HA.out (by omega);subst hAe;have hmod:Int.tmod ((j:Int)+1) (F.length:Int)=(((j+1) % F.length:Nat):Int):=by
        rw[Int.tmod_eq_emod_of_nonneg (by omega)];simp
       have hF0:¬ (F.length:Int)=0:=by omega
       have hjmi:(((j+1) % F.length:Nat):Int)<(F.length:Int):=by omega
       generalize (j+1) % F.length=jm at *;clear hjn hFa hFb;go_wp2_with fail
       refine(Iz (c1,c2) a _ (by omega)).mono ?_;rintro e w2 ⟨rfl,hbl⟩;have hbe:c1≤Bx (c1,c2) a∧Bx (c1,c2) a≤c2:=by unfold Bx;split <;> simp only at * <;> omega
       have HD0:Hid (SInD w sb L s1 axis (c1,c2) cb g F a b (Qp s1.m.org F axis (c1,c2) s1.m.cur (j+1)) (.int .i64 (Bx (c1,c2) a)) w2):=Aa ⟨_,_,_,hbe.1,hbe.2,rfl,Xy hbe.1 hbe.2 hb1 hb2,HSS.out.symm,HJN.out.below hbl⟩;clear HJN HSS m0 m1 k0 k1 hgl hcbl hbl hmod hF0 hjmi hjm hbe;generalize Bx (c1,c2) a=p0 at *;go_wp2_with fail
       go_loopw [11] (fun p wq=>SInD w sb L s1 axis (c1,c2) cb g F a b (Qp s1.m.org F axis (c1,c2) s1.m.cur (j+1)) p wq) (fun p _=>Zbj (c1,c2) b (intOf p).toNat)
       case atStart=>exact HD0.out
       case round =>
        clear HD0;obtain⟨p,n,cur,hp1,hp2,rfl,hdn,hseg,hjn⟩:=hrel;dsimp only at hp1 hp2;by_cases hpb:p=b
        ·subst hpb;rw[Vf] at hseg;subst hseg;have HJE:Hid (SInC w sb L s1 axis (c1,c2) cb g F s1.m.cur (.int .i64 ((j:Int)+1)) wr):=Aa ⟨j+1,by omega,by simp,hjn⟩;clear hjn;go_wp2;go_roundw
         case rel=>exact HJE.out
         case measure=>simp[intOf];omega
        ·have hpb':¬ (p:Int)=(b:Int):=by omega
         obtain⟨hst,hbe1,hbe2⟩:=Ns (c:=(c1,c2)) (b:=b) (p:=p) hc1 hp1 hp2 hb1 hb2 hpb;obtain⟨n',rfl⟩:∃ n',n=n'+1:=⟨n-1,by omega⟩;rw[Qq hpb] at hseg;have hol:=hjn.ma.ok.m.orgl;have hcl:=ES1.out.2.2.2;simp only at hol;have hol2:s1.m.org.length=s1.m.cur.length:=by rw[ES1.out.1,HOK.out.orgl];omega
         have get1:∀ i,i≤c2→∃ x,s1.m.org[i]?=some x:=fun i hi=>⟨_,List.getElem?_eq_getElem (by omega)⟩
         have get2:∀ i,i≤c2→∃ x,cur[i]?=some x:=fun i hi=>⟨_,List.getElem?_eq_getElem (by omega)⟩
         obtain⟨xp,hxp⟩:=get1 p hp2;obtain⟨xa,hxa⟩:=get1 a ha2;obtain⟨xb,hxb⟩:=get1 b hb2;obtain⟨yp,hyp⟩:=get2 p hp2;obtain⟨ya,hya⟩:=get2 a ha2;obtain⟨yb,hyb⟩:=get2 b hb2;have HC:=Aa (Mw wr sb L { s1 with m := { s1.m with cur:=cur } } hjn.ma axis ha p a b xp xa xb yp ya yb hxp hxa hxb hyp hya hyb);have HJN:=Aa hjn;have HST:=Aa hst;have HSG:=Aa hseg;clear hjn hst hseg hxp hxa hxb hyp hya hyb get1 get2 hol hcl hol2;go_wp2_with fail
         refine HC.out.mono ?_;rintro e w2 ⟨rfl,hm2,hf2⟩;have HJ2:=Aa (HJN.out.go hf2 hm2);clear HC HJN hm2 hf2;have k0:=Ab HJ2.out.blk 0 rfl;have k1:=Ab HJ2.out.blk 1 rfl;have hcbl:=HJ2.out.blk.lt;go_wp2_with fail
         refine(Iz (c1,c2) p _ (by omega)).mono ?_;rintro e w3 ⟨rfl,hbl⟩;have HJ3:=Aa (HJ2.out.below hbl);clear k0 k1 hcbl hbl HJ2;have HDN:Hid (SInD w sb L s1 axis (c1,c2) cb g F a b (Qp s1.m.org F axis (c1,c2) s1.m.cur (j+1)) (.int .i64 (Bx (c1,c2) p)) w3):=Aa ⟨_,n',_,hbe1,hbe2,rfl,by have:=HST.out;omega,HSG.out,HJ3.out⟩;clear HJ3 HSG;generalize Bx (c1,c2) p=p1 at *;go_wp2;go_roundw
         case rel=>exact HDN.out
         case measure=>have:=HST.out;simp[intOf];omega
      ·have hje:j=F.length:=by omega
       subst hje;rw[←HCE.out] at hjn;have HAE:Hid (SInA w sb L s axis (.int .i64 ((k:Int)+1)) wr):=Aa ⟨k+1,by omega,by simp,by
        rw[HT.out,List.foldl_append];simp only[List.foldl_cons,List.foldl_nil];rw[HCK.out,←ES1.out.2.2.1,←ES1.out.1,←ES1.out.2.1];have:=hjn.ma;rw[←HS1.out] at this ⊢;exact this,hjn.fr⟩
       clear hjn;go_wp2;go_roundw
       case rel=>exact HAE.out
       case measure=>simp[intOf];omega
  ·clear hM hfr;go_wp2;go_end0;have hM:=HM.out;rw[List.take_of_length_le (by omega)] at hM;exact .to hM HF.out
end Go.Proofs.YtnhebmgibiomnaaGreat

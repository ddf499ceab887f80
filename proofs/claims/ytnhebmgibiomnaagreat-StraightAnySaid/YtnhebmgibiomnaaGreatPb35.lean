/- Parts of the proof, joined: MkA FwA FwB StG. -/
import Derived.Deep.RegionLaw
import Derived.Test.YtnhebmgibiomnaaGreatPb34
set_option linter.unusedVariables false
set_option linter.unusedSimpArgs false
set_option maxRecDepth 100000
set_option maxHeartbeats 8000000
namespace Go.Proofs.YtnhebmgibiomnaaGreat
open Go.RowKit
end Go.Proofs.YtnhebmgibiomnaaGreat
namespace Go.Proofs.YtnhebmgibiomnaaGreat
open Go.RowKit
def Zfc (N0:Nat):Repr N0 (Int×Int):=Repr.pair Repr.int Repr.int
def Nx (N0:Nat):Repr N0 (List (Int×Int)):=Repr.row 96 (Zfc N0)
theorem Zfb {N0:Nat} {w:World} {B:Nat} {x:Int×Int} {cs:List Value} (h:(Zfc N0).rel w B x cs):cs=[.int .i64 x.1,.int .i64 x.2]:=by
 obtain⟨_,_,rfl,⟨rfl,_⟩,rfl,_⟩:=h;rfl
theorem Hb (l:List (Int×Int)):Bg l=l.flatMap fun x=>[.int .i64 x.1,.int .i64 x.2]:=by
 induction l with
 | nil=>rfl
 | cons x r ih=>simp[Bg,ih]
theorem Ka {N0:Nat} {w:World} {B:Nat} {A:Option Addr} {l:List (Int×Int)} (h:RowAt (Zfc N0) 96 w B A l):Reads w B 2 A l.length (Bg l):=by
 rw[Hb];exact h.reads _ fun a cs h=>Zfb h
end Go.Proofs.YtnhebmgibiomnaaGreat
namespace Go.Proofs.YtnhebmgibiomnaaGreat
open Go.RowKit
end Go.Proofs.YtnhebmgibiomnaaGreat
namespace Go.Proofs.YtnhebmgibiomnaaGreat
open Go.RowKit
section
variable {P : Program} (w : World)
end
end Go.Proofs.YtnhebmgibiomnaaGreat
namespace Go.Proofs.YtnhebmgibiomnaaGreat
open Go.RowKit
section
variable {N0 : Nat} {α : Type} {R : Repr N0 α} {t : TypeId} {base : Nat} {w : World} {v : Value} {l : List α}
end
end Go.Proofs.YtnhebmgibiomnaaGreat
namespace Go.Proofs.YtnhebmgibiomnaaGreat
open Go.RowKit
structure MkC where
 M:Nat
 B:Nat
 sA:Option Addr
 sn:Nat
 sc:Nat
 c2:Value
 c3:Value
 c4:Value
 c5:Value
 c6:Value
 c7:Value
 c8:Value
 c9:Value
 c10:Value
 c11:Value
end Go.Proofs.YtnhebmgibiomnaaGreat
namespace Go.Proofs.YtnhebmgibiomnaaGreat
open Go.RowKit
section
variable (N0 : Nat) (m : MkC) (w0 : World)
end
section
variable {N0 : Nat} {m : MkC} {w0 wx wy : World} {ob : Nat} {vp ve : Value} {l : List (Int × Int × Bool)} {es : List Int}
end
end Go.Proofs.YtnhebmgibiomnaaGreat
namespace Go.Proofs.YtnhebmgibiomnaaGreat
open Go.RowKit Mc
theorem Je {w:World} {B size n m:Nat} {A:Option Addr} {xs:List Value} (h:Reads w B size A n xs) (hm:m≤n):Reads w B size A m (xs.take (m*size)):=by
 refine⟨by rw[List.length_take,h.1];exact Nat.min_eq_left (Nat.mul_le_mul_right _ hm),fun hp=>?_⟩;obtain⟨b,off,e,hb,hc⟩:=h.2 (by omega);refine⟨b,off,e,hb,fun j u hu=>hc j u ?_⟩;rw[List.getElem?_take] at hu;split at hu
 ·exact hu
 ·cases hu
theorem Kj (l:List (Int×Int)) (n:Nat):Bg (l.take n)=(Bg l).take (n*2):=by
 induction l generalizing n with
 | nil=>simp[Bg]
 | cons x r ih =>
  cases n with
  | zero=>simp[Bg]
  | succ n=>rw[List.take_succ_cons,Bg,ih,show (n+1)*2=n*2+1+1 by omega];simp[Bg]
theorem Zep (l:List (Int×Int)):Bg l=pts l:=Hb l
theorem Pp {w:World} {B k:Nat} {A:Option Addr} {l:List (Int×Int)} (h:Reads w B 2 A l.length (Bg l)):Reads w B 2 A (l.take k).length (Bg (l.take k)):=by
 have hk:(l.take k).length≤l.length:=by rw[List.length_take];omega
 have:=Je h hk;rw[←Kj,show l.take (l.take k).length=l.take k by rw[List.length_take,List.take_eq_take_iff];omega] at this;exact this
theorem Vw {w:World} {B k:Nat} {A:Option Addr} {l:List (Int×Int)} (h:Reads w B 2 A l.length (pts l)):Reads w B 2 A (l.take k).length (pts (l.take k)):=by
 rw[←Zep] at h ⊢;exact Pp h
theorem Ly {w:World} {B k:Nat} {A:Option Addr} {l:List Int} (h:Reads w B 1 A l.length (ints l)):Reads w B 1 A (l.take k).length (ints (l.take k)):=by
 have hk:(l.take k).length≤l.length:=by rw[List.length_take];omega
 have:=Je h hk;rw[Nat.mul_one] at this;rw[show ints (l.take k)=(ints l).take (l.take k).length by rw[ints,ints,←List.map_take,List.length_take];congr 1;rw[List.take_eq_take_iff];omega];exact this
def Uh (ll:List (List (Int×Int))):List (List (Int×Int)):=(ll.take 6).map (List.take 12)
def FwI (w:World) (ll:List (List (Int×Int))) (cs:Array Value) (v i:Value) (wr:World):Prop :=
 ∃ (k:Nat) (us:List Value),k≤ll.length∧k≤6∧i=.int .i64 (k:Int)∧wr.ownsRow w.heap.size 24 1 v k us∧(∀ (j:Nat) l,j<k→ll[j]?=some l→∃ v,us[j]?=some v∧InsAt w w.heap.size v (l.take 12))∧Grow w wr∧Blk wr w.heap.size 26 cs∧Blk wr (w.heap.size+1) 26 #[.slice none 0 0,.slice none 0 0,.slice none 0 0,.int .i64 0]
theorem Xe:(Tryz.prog.info? 24).map (fun i=>(i.zero,i.size,i.bytes))=some (some (.slice none 0 0),1,24):=by kernel_rfl
theorem Xt (w:World) (N0 B:Nat) (hB:B≤w.heap.size) (fA mA cA:Option Addr) (fc mc cc:Nat) (ll:List (List (Int×Int))) (ml:List (Int×Int)) (cl:List Int) (size:Int) (h1:RowAt (Nx N0) 24 w B fA ll) (hml:ml.length≤mc) (hmc:mc≤maxLen) (hcl:cl.length≤cc) (hcc:cc≤maxLen) :
  Calls Tryz.prog 20 #[.agg #[.slice fA ll.length fc,.slice mA ml.length mc,.slice cA cl.length cc,.int .i64 size]] w fun e w'=>∃ A' c',e=.returned (.agg #[.slice A' (Uh ll).length c',.slice mA (ml.take 60).length mc,.slice cA (cl.take 8).length cc,.int .i64 size])∧RowsAt w' w'.heap.size A' (Uh ll)∧Below w.heap.size w w':=by
 have H1:=Aa h1;obtain⟨i0,hi0,hi1,hi2,hi3⟩:=Dc Xe;obtain⟨m,hm⟩:∃ m,m=(ml.take 60).length:=⟨_,rfl⟩;obtain⟨n,hn⟩:∃ n,n=(cl.take 8).length:=⟨_,rfl⟩;rw[←hm,←hn];rw[List.length_take] at hm hn;have hmi:(if (60:Int)<(ml.length:Int) then(60:Int) else(ml.length:Int))=(m:Int):=by split <;> omega
 have hni:(if (8:Int)<(cl.length:Int) then(8:Int) else(cl.length:Int))=(n:Int):=by split <;> omega
 have hm1:m≤ml.length:=by omega
 have hmq:m≤mc:=by omega
 have hnq:n≤cc:=by omega
 have hn1:n≤cl.length:=by omega
 unfold maxLen at hmc hcc;have hmc':(mc:Int)≤9223372036854775807:=by omega
 have hcc':(cc:Int)≤9223372036854775807:=by omega
 obtain⟨X,hX⟩:∃ X,X=(w.alloc (.cells #[.slice fA ll.length fc,.slice mA ml.length mc,.slice cA cl.length cc,.int .i64 size] 26)).alloc (.cells #[.slice none 0 0,.slice none 0 0,.slice none 0 0,.int .i64 0] 26):=⟨_,rfl⟩;have HG:=Aa (show Grow w X by rw[hX];exact((Fr.refl _ w).alloc _).alloc _);have HB0:=Aa (show Blk X w.heap.size 26 #[.slice fA ll.length fc,.slice mA ml.length mc,.slice cA cl.length cc,.int .i64 size] by rw[hX];exact(Blk.new _ _ _).alloc _);have HB1:=Aa (show Blk X (w.heap.size+1) 26 #[.slice none 0 0,.slice none 0 0,.slice none 0 0,.int .i64 0] by rw[hX];exact Blk.new_at _ _ _ (by simp));have HX:=Aa hX;clear hX h1 hm hn hmc hcc;go_enter Tryz.func20,Tryz.ntmps20;go_upto_region 1 with fail
 rw[←HX.out];clear HX;go_wp2_with fail
 go_loopw [3,4] (fun v i wr=>FwI w ll #[.slice fA ll.length fc,.slice mA ml.length mc,.slice cA cl.length cc,.int .i64 size] v i wr) (fun _ i _=>ll.length-(intOf i).toNat)
 case atStart=>exact⟨0,[],Nat.zero_le _,Nat.zero_le _,rfl,Di _ _ _ _,fun j l h=>absurd h (Nat.not_lt_zero _),HG.out,HB0.out,HB1.out⟩
 case round =>
  obtain⟨k,us,hk,hk6,rfl,ho,hus,hg,hb0,hb1⟩:=hrel;clear HG HB0 HB1;obtain⟨Ap,cp,rfl,_⟩:=Ae ho;have HO:=Aa ho;have HUS:=Aa hus;have HG:=Aa hg;have HB0:=Aa hb0;have HB1:=Aa hb1;have p0:=Ab hb0 0 rfl;have p1:=Ab hb0 1 rfl;have p2:=Ab hb0 2 rfl;have p3:=Ab hb0 3 rfl;have hpl:=hb0.lt;have hrl:=hb1.lt;clear ho hus hg hb0 hb1;by_cases hlt:k<ll.length∧k<6
  ·obtain⟨x,hx⟩:∃ x,ll[k]?=some x:=⟨_,List.getElem?_eq_getElem hlt.1⟩;obtain⟨bf,off,_,hA,hbB,⟨Al,cx,rfl,hc1,hc2,hr⟩,hcell⟩:=H1.out.get hx;subst hA;have d0:=(HG.out.cell (p:=⟨bf,off+k*1+0,none⟩) (Nat.lt_of_lt_of_le hbB hB) (fun x=>x)).trans (hcell 0 _ rfl);have e:off+k*1+0=off+k:=by omega
   rw[e] at d0;have hbr:bf<wr.heap.size:=by omega
   have hki:(k:Int)<ll.length:=by omega
   have hk6i:(k:Int)<6:=by omega
   have hk6d:decide ((k:Int)<6)=true:=by simpa using hk6i
   obtain⟨q,hq⟩:∃ q,q=(x.take 12).length:=⟨_,rfl⟩;have HQ:=Aa hq;rw[List.length_take] at hq;have hqi:(if (12:Int)<(x.length:Int) then(12:Int) else(x.length:Int))=(q:Int):=by split <;> omega
   have hq1:q≤x.length:=by omega
   unfold maxLen at hc2;have hcx:(cx:Int)≤9223372036854775807:=by omega
   have hqc:q≤cx:=by omega
   have HLR:=Aa ((Pp (k:=12) (Ka hr)).more hB);have HXX:=Aa hx;have hwk:IntKind.i64.wrap ((k:Int)+1)=(k:Int)+1:=IntWalk.i64_in _ (by omega);obtain⟨lt1,lt2⟩:=hlt;clear hr hcell hq hc2 hx e hk hk6 lt1;go_upto_region 5 with fail
   have hS:wr.drew.cell? ⟨w.heap.size,0,none⟩=some (.slice (some ⟨bf,off,none⟩) ll.length fc)∧wr.drew.cell? ⟨bf,off+k,none⟩=some (.slice Al x.length cx):=⟨p0,d0⟩;refine Bl [14,15] [2,5,7,10] [] 17 (fun wq:World=>wq.cell? ⟨w.heap.size,0,none⟩=some (.slice (some ⟨bf,off,none⟩) ll.length fc)∧wq.cell? ⟨bf,off+k,none⟩=some (.slice Al x.length cx)) ?_
   iterate 14 (first|refine Ai ?_|refine An hS ?_)
   refine Aq fun K hK=>?_;go_simp
   refine Aj hK ?_;clear hK K;refine Aq fun K hK=>?_
   refine Zl _ rfl (.tmp 16) (.tmp 30) _ rfl w.heap.size 24 i0 _ 1 24 Tryz.underlying23 hi0 hi1 hi2 hi3 rfl (by decide) (.slice Ap k cp) k us rfl (Dp (w':=wr.drew.alloc (.cells #[.slice Al q cx] 24)) HO.out (aliasBr.drew.alloc Ad _) Ad) _ (some ⟨wr.heap.size,0,none⟩) 1 1 [.slice Al q cx] rfl (Reads.one_new wr.drew 24 [.slice Al q cx]) (by simp[Value.oneCell']) (by unfold maxLen;omega) (by omega) (by show w.heap.size≤(wr.drew.alloc _).heap.size;simp only[World.size_alloc,World.size_drew];omega) ?_;intro v' w2 ho2 hg2 _;obtain⟨A2,c2,rfl,_⟩:=Ae ho2;have HO2:=Aa ho2;have hgd:Grow wr (wr.drew.alloc (.cells #[.slice Al q cx] 24)):=((Fr.refl _ wr).drew).alloc _;have HG2:=Aa (Ds (HG.out.trans hgd) hg2 (fun g e=>(Ag HO.out e).1));have HB2:=Aa ((hgd.blk HB0.out (fun x=>x)).grown hg2 (fun e=>by have:=Ag HO.out e.symm;obtain⟨_,_,cs,hcs⟩:=this;exact absurd rfl (Blk.ne_ HB0.out hcs (by decide))));have HC2:=Aa ((hgd.blk HB1.out (fun x=>x)).grown hg2 (fun e=>by have:=Ag HO.out e.symm;obtain⟨_,_,cs,hcs⟩:=this;exact absurd rfl (Blk.ne_ HB1.out hcs (by decide))));clear ho2 hg2 hgd HG HB0 HB1 p0 p1 p2 p3 d0 hpl hrl hbr hS;refine Aj hK ?_;clear hK K
   iterate 1 (first|refine Ai ?_|refine An hS ?_)
   refine Ah ?_;go_wp2_with fail
   go_roundw
   case rel =>
    refine⟨k+1,us++[.slice Al q cx],by omega,by omega,by go_num,HO2.out,fun j l hj hl=>?_,HG2.out,HB2.out,HC2.out⟩;have hul:us.length=k:=by have:=HO.out.1;omega
    by_cases e:j=k
    ·subst e;rw[HXX.out] at hl;cases hl
     exact⟨_,by rw[List.getElem?_append_right (by omega),hul,Nat.sub_self];rfl,Al,cx,by rw[←HQ.out],HLR.out⟩
    ·obtain⟨v,hv,hi⟩:=HUS.out j l (by omega) hl;exact⟨v,by rw[List.getElem?_append_left (by omega)];exact hv,hi⟩
   case measure=>simp[intOf];omega
  ·have hke:k=(ll.take 6).length:=by rw[List.length_take];omega
   have hrows:RowsAt w w.heap.size Ap (Uh ll)∨True:=.inr trivial;clear hrows;obtain⟨fn,hfn⟩:∃ n,n=(Uh ll).length:=⟨_,rfl⟩;have hkf:k=fn:=by rw[hfn,hke];unfold Uh;rw[List.length_map]
   subst hkf;have HFN:=Aa hfn;have r0:=HB1.out.cell;have r1:=HB1.out.frozen;clear hke hfn;by_cases hl:(k:Int)<ll.length
   ·have h6:¬ ((k:Int)<6):=by omega
    go_upto_region 6 with fail
    have hS:wr.drew.cell? ⟨w.heap.size,1,none⟩=some (.slice mA ml.length mc)∧wr.drew.cell? ⟨w.heap.size,2,none⟩=some (.slice cA cl.length cc)∧wr.drew.cell? ⟨w.heap.size,3,none⟩=some (.int .i64 size):=⟨p1,p2,p3⟩;refine Bl [18] [2,4,9,11,16] [] 19 (fun wq:World=>wq.cell? ⟨w.heap.size,1,none⟩=some (.slice mA ml.length mc)∧wq.cell? ⟨w.heap.size,2,none⟩=some (.slice cA cl.length cc)∧wq.cell? ⟨w.heap.size,3,none⟩=some (.int .i64 size)) ?_
    iterate 18 (first|refine Ai ?_|refine An hS ?_)
    refine Aq fun K hK=>?_;go_simp
    have hN:=(((((HB1.out.set_ 0 (.slice Ap k cp)).set_ 1 (.slice mA m mc)).set_ 2 (.slice cA n cc)).set_ 3 (.int .i64 size)):Blk ((((wr.setCell ⟨w.heap.size+1,0,none⟩ (.slice Ap k cp)).setCell ⟨w.heap.size+1,1,none⟩ (.slice mA m mc)).setCell ⟨w.heap.size+1,2,none⟩ (.slice cA n cc)).setCell ⟨w.heap.size+1,3,none⟩ (.int .i64 size)) _ _ _);simp only[List.setIfInBounds_toArray,List.set_cons_zero,List.set_cons_succ] at hN;have HN:=Aa hN.drew;have HBW:=Aa (show Below w.heap.size w ((((wr.setCell ⟨w.heap.size+1,0,none⟩ (.slice Ap k cp)).setCell ⟨w.heap.size+1,1,none⟩ (.slice mA m mc)).setCell ⟨w.heap.size+1,2,none⟩ (.slice cA n cc)).setCell ⟨w.heap.size+1,3,none⟩ (.int .i64 size)).drew from((((((Grow.below HG.out Ad).setCell (p:=⟨w.heap.size+1,0,none⟩) (Nat.le_succ _) _).setCell (p:=⟨w.heap.size+1,1,none⟩) (Nat.le_succ _) _).setCell (p:=⟨w.heap.size+1,2,none⟩) (Nat.le_succ _) _).setCell (p:=⟨w.heap.size+1,3,none⟩) (Nat.le_succ _) _).drew))
    have HO2:=Aa (Bo (w':=((((wr.setCell ⟨w.heap.size+1,0,none⟩ (.slice Ap k cp)).setCell ⟨w.heap.size+1,1,none⟩ (.slice mA m mc)).setCell ⟨w.heap.size+1,2,none⟩ (.slice cA n cc)).setCell ⟨w.heap.size+1,3,none⟩ (.int .i64 size)).drew) HO.out fun g e=>by have:=(Ag HO.out e);obtain⟨_,_,cs,hcs⟩:=this;have hne:g≠w.heap.size+1:=(fun e=>by subst e;exact Blk.ne_ hcs HB1.out (by decide) rfl);exact((((Blk.far hcs (p:=⟨w.heap.size+1,0,none⟩) hne _).far (p:=⟨w.heap.size+1,1,none⟩) hne _).far (p:=⟨w.heap.size+1,2,none⟩) hne _).far (p:=⟨w.heap.size+1,3,none⟩) hne _).trans hcs.symm);clear hS p0 p1 p2 p3 hpl hrl r0 r1 hN HB1 HB0 HG HO;generalize ((((wr.setCell ⟨w.heap.size+1,0,none⟩ (.slice Ap k cp)).setCell ⟨w.heap.size+1,1,none⟩ (.slice mA m mc)).setCell ⟨w.heap.size+1,2,none⟩ (.slice cA n cc)).setCell ⟨w.heap.size+1,3,none⟩ (.int .i64 size)).drew=V at *;refine Aj hK ?_;clear hK K;refine Ah ?_;have y0:=HN.out.cell 0;have y1:=HN.out.cell 1;have y2:=HN.out.cell 2;have y3:=HN.out.cell 3;have yl:=HN.out.lt;simp only[List.getElem?_toArray,List.getElem?_cons_zero,List.getElem?_cons_succ] at y0 y1 y2 y3;go_wp2_with fail
    refine bodyPost_ret (v:=.agg #[.slice Ap k cp,.slice mA m mc,.slice cA n cc,.int .i64 size]) (by simp[results,Tryz.results20,go_sem,y0,y1,y2,y3]) rfl ⟨Ap,⟨cp,by rw[←HFN.out]⟩,?_,HBW.out⟩;refine⟨us,by rw[←HFN.out];exact Reads.of_own HO2.out,fun i l hl=>?_⟩;obtain⟨l0,hl0,rfl⟩:∃ l0,(ll.take 6)[i]?=some l0∧l=l0.take 12:=by
     unfold Uh at hl;rw[List.getElem?_map] at hl;cases e:(ll.take 6)[i]? with
     | none=>rw[e] at hl;cases hl
     | some l0=>rw[e] at hl;cases hl;exact⟨l0,rfl,rfl⟩
    have hi6:=(List.getElem?_eq_some_iff.1 hl0).1;rw[List.length_take] at hi6;rw[List.getElem?_take,if_pos (by omega)] at hl0;obtain⟨v,hv,hin⟩:=HUS.out i l0 (by omega) hl0;exact⟨v,hv,(hin.below HBW.out Ad).more HBW.out.size⟩
   ·go_upto_region 6 with fail
    have hS:wr.drew.cell? ⟨w.heap.size,1,none⟩=some (.slice mA ml.length mc)∧wr.drew.cell? ⟨w.heap.size,2,none⟩=some (.slice cA cl.length cc)∧wr.drew.cell? ⟨w.heap.size,3,none⟩=some (.int .i64 size):=⟨p1,p2,p3⟩;refine Bl [18] [2,4,9,11,16] [] 19 (fun wq:World=>wq.cell? ⟨w.heap.size,1,none⟩=some (.slice mA ml.length mc)∧wq.cell? ⟨w.heap.size,2,none⟩=some (.slice cA cl.length cc)∧wq.cell? ⟨w.heap.size,3,none⟩=some (.int .i64 size)) ?_
    iterate 18 (first|refine Ai ?_|refine An hS ?_)
    refine Aq fun K hK=>?_;go_simp
    have hN:=(((((HB1.out.set_ 0 (.slice Ap k cp)).set_ 1 (.slice mA m mc)).set_ 2 (.slice cA n cc)).set_ 3 (.int .i64 size)):Blk ((((wr.setCell ⟨w.heap.size+1,0,none⟩ (.slice Ap k cp)).setCell ⟨w.heap.size+1,1,none⟩ (.slice mA m mc)).setCell ⟨w.heap.size+1,2,none⟩ (.slice cA n cc)).setCell ⟨w.heap.size+1,3,none⟩ (.int .i64 size)) _ _ _);simp only[List.setIfInBounds_toArray,List.set_cons_zero,List.set_cons_succ] at hN;have HN:=Aa hN.drew;have HBW:=Aa (show Below w.heap.size w ((((wr.setCell ⟨w.heap.size+1,0,none⟩ (.slice Ap k cp)).setCell ⟨w.heap.size+1,1,none⟩ (.slice mA m mc)).setCell ⟨w.heap.size+1,2,none⟩ (.slice cA n cc)).setCell ⟨w.heap.size+1,3,none⟩ (.int .i64 size)).drew from((((((Grow.below HG.out Ad).setCell (p:=⟨w.heap.size+1,0,none⟩) (Nat.le_succ _) _).setCell (p:=⟨w.heap.size+1,1,none⟩) (Nat.le_succ _) _).setCell (p:=⟨w.heap.size+1,2,none⟩) (Nat.le_succ _) _).setCell (p:=⟨w.heap.size+1,3,none⟩) (Nat.le_succ _) _).drew))
    have HO2:=Aa (Bo (w':=((((wr.setCell ⟨w.heap.size+1,0,none⟩ (.slice Ap k cp)).setCell ⟨w.heap.size+1,1,none⟩ (.slice mA m mc)).setCell ⟨w.heap.size+1,2,none⟩ (.slice cA n cc)).setCell ⟨w.heap.size+1,3,none⟩ (.int .i64 size)).drew) HO.out fun g e=>by have:=(Ag HO.out e);obtain⟨_,_,cs,hcs⟩:=this;have hne:g≠w.heap.size+1:=(fun e=>by subst e;exact Blk.ne_ hcs HB1.out (by decide) rfl);exact((((Blk.far hcs (p:=⟨w.heap.size+1,0,none⟩) hne _).far (p:=⟨w.heap.size+1,1,none⟩) hne _).far (p:=⟨w.heap.size+1,2,none⟩) hne _).far (p:=⟨w.heap.size+1,3,none⟩) hne _).trans hcs.symm);clear hS p0 p1 p2 p3 hpl hrl r0 r1 hN HB1 HB0 HG HO;generalize ((((wr.setCell ⟨w.heap.size+1,0,none⟩ (.slice Ap k cp)).setCell ⟨w.heap.size+1,1,none⟩ (.slice mA m mc)).setCell ⟨w.heap.size+1,2,none⟩ (.slice cA n cc)).setCell ⟨w.heap.size+1,3,none⟩ (.int .i64 size)).drew=V at *;refine Aj hK ?_;clear hK K;refine Ah ?_;have y0:=HN.out.cell 0;have y1:=HN.out.cell 1;have y2:=HN.out.cell 2;have y3:=HN.out.cell 3;have yl:=HN.out.lt;simp only[List.getElem?_toArray,List.getElem?_cons_zero,List.getElem?_cons_succ] at y0 y1 y2 y3;go_wp2_with fail
    refine bodyPost_ret (v:=.agg #[.slice Ap k cp,.slice mA m mc,.slice cA n cc,.int .i64 size]) (by simp[results,Tryz.results20,go_sem,y0,y1,y2,y3]) rfl ⟨Ap,⟨cp,by rw[←HFN.out]⟩,?_,HBW.out⟩;refine⟨us,by rw[←HFN.out];exact Reads.of_own HO2.out,fun i l hl=>?_⟩;obtain⟨l0,hl0,rfl⟩:∃ l0,(ll.take 6)[i]?=some l0∧l=l0.take 12:=by
     unfold Uh at hl;rw[List.getElem?_map] at hl;cases e:(ll.take 6)[i]? with
     | none=>rw[e] at hl;cases hl
     | some l0=>rw[e] at hl;cases hl;exact⟨l0,rfl,rfl⟩
    have hi6:=(List.getElem?_eq_some_iff.1 hl0).1;rw[List.length_take] at hi6;rw[List.getElem?_take,if_pos (by omega)] at hl0;obtain⟨v,hv,hin⟩:=HUS.out i l0 (by omega) hl0;exact⟨v,hv,(hin.below HBW.out Ad).more HBW.out.size⟩
def Oi (z:Zn):Zn:=⟨z.org.take 22,z.cur.take 20,z.touch.take 22,z.ends.take 20⟩
theorem Zfg (z:Zn):ZnOk (Oi z):=⟨by simp[Oi];omega,by simp[Oi];omega,by simp[Oi];omega,by simp[Oi];omega⟩
theorem Zfh {W:World} {B:Nat} {z:Zn} {oA uA tA eA:Option Addr} (h:ZnAt W B z oA uA tA eA):ZnAt W B (Oi z) oA uA tA eA:=⟨Vw h.org,Vw h.cur,Ly h.touch,Ly h.ends⟩
theorem Pv (w:World) (z:Zn) (oA uA tA eA:Option Addr) (oc uc tc ec:Nat) (h1:z.org.length≤oc) (h2:z.cur.length≤uc) (h3:z.touch.length≤tc) (h4:z.ends.length≤ec) (k1:oc≤maxLen) (k2:uc≤maxLen) (k3:tc≤maxLen) (k4:ec≤maxLen) :
  Calls Tryz.prog 28 #[.agg #[.slice oA z.org.length oc,.slice uA z.cur.length uc,.slice tA z.touch.length tc,.slice eA z.ends.length ec]] w fun e w'=>e=.returned (.agg #[.slice oA (Oi z).org.length oc,.slice uA (Oi z).cur.length uc,.slice tA (Oi z).touch.length tc,.slice eA (Oi z).ends.length ec])∧Below w.heap.size w w':=by
 unfold Oi;dsimp only;obtain⟨m1,hm1⟩:∃ m,m=(z.org.take 22).length:=⟨_,rfl⟩;have im1:(if (22:Int)<(z.org.length:Int) then(22:Int) else(z.org.length:Int))=(m1:Int):=by rw[List.length_take] at hm1;split <;> omega
 have lm1:m1≤oc:=by rw[List.length_take] at hm1;omega
 have Hm1:=Aa hm1;obtain⟨m2,hm2⟩:∃ m,m=(z.cur.take 20).length:=⟨_,rfl⟩;have im2:(if (20:Int)<(z.cur.length:Int) then(20:Int) else(z.cur.length:Int))=(m2:Int):=by rw[List.length_take] at hm2;split <;> omega
 have lm2:m2≤uc:=by rw[List.length_take] at hm2;omega
 have Hm2:=Aa hm2;obtain⟨m3,hm3⟩:∃ m,m=(z.touch.take 22).length:=⟨_,rfl⟩;have im3:(if (22:Int)<(z.touch.length:Int) then(22:Int) else(z.touch.length:Int))=(m3:Int):=by rw[List.length_take] at hm3;split <;> omega
 have lm3:m3≤tc:=by rw[List.length_take] at hm3;omega
 have Hm3:=Aa hm3;obtain⟨m4,hm4⟩:∃ m,m=(z.ends.take 20).length:=⟨_,rfl⟩;have im4:(if (20:Int)<(z.ends.length:Int) then(20:Int) else(z.ends.length:Int))=(m4:Int):=by rw[List.length_take] at hm4;split <;> omega
 have lm4:m4≤ec:=by rw[List.length_take] at hm4;omega
 have Hm4:=Aa hm4;rw[←hm1,←hm2,←hm3,←hm4];unfold maxLen at k1 k2 k3 k4;have q1:(oc:Int)≤9223372036854775807:=by omega
 have q2:(uc:Int)≤9223372036854775807:=by omega
 have q3:(tc:Int)≤9223372036854775807:=by omega
 have q4:(ec:Int)≤9223372036854775807:=by omega
 obtain⟨X,hX⟩:∃ X,X=(w.alloc (.cells #[.slice oA z.org.length oc,.slice uA z.cur.length uc,.slice tA z.touch.length tc,.slice eA z.ends.length ec] 30)).alloc (.cells #[.slice none 0 0,.slice none 0 0,.slice none 0 0,.slice none 0 0] 30):=⟨_,rfl⟩;have HG:=Aa (show Grow w X by rw[hX];exact((Fr.refl _ w).alloc _).alloc _);have HB0:=Aa (show Blk X w.heap.size 30 #[.slice oA z.org.length oc,.slice uA z.cur.length uc,.slice tA z.touch.length tc,.slice eA z.ends.length ec] by rw[hX];exact(Blk.new _ _ _).alloc _);have HB1:=Aa (show Blk X (w.heap.size+1) 30 #[.slice none 0 0,.slice none 0 0,.slice none 0 0,.slice none 0 0] by rw[hX];exact Blk.new_at _ _ _ (by simp));have HX:=Aa hX;clear hX hm1 hm2 hm3 hm4 k1 k2 k3 k4;go_enter Tryz.func28,Tryz.ntmps28;go_upto_region 1 with fail
 rw[←HX.out];clear HX;have p0:=HB0.out.cell 0;have p1:=HB0.out.cell 1;have p2:=HB0.out.cell 2;have p3:=HB0.out.cell 3;have r0:=HB1.out.cell;have r1:=HB1.out.frozen;simp only[List.getElem?_toArray,List.getElem?_cons_zero,List.getElem?_cons_succ] at p0 p1 p2 p3;have hpl:=HB0.out.lt;have hrl:=HB1.out.lt;have hS:X.drew.cell? ⟨w.heap.size,0,none⟩=some (.slice oA z.org.length oc)∧X.drew.cell? ⟨w.heap.size,1,none⟩=some (.slice uA z.cur.length uc)∧X.drew.cell? ⟨w.heap.size,2,none⟩=some (.slice tA z.touch.length tc)∧X.drew.cell? ⟨w.heap.size,3,none⟩=some (.slice eA z.ends.length ec):=⟨p0,p1,p2,p3⟩;refine Bl [29] [1,3,8,10,15,17,22,24] [] 30 (fun wq:World=>wq.cell? ⟨w.heap.size,0,none⟩=some (.slice oA z.org.length oc)∧wq.cell? ⟨w.heap.size,1,none⟩=some (.slice uA z.cur.length uc)∧wq.cell? ⟨w.heap.size,2,none⟩=some (.slice tA z.touch.length tc)∧wq.cell? ⟨w.heap.size,3,none⟩=some (.slice eA z.ends.length ec)) ?_
 iterate 29 (first|refine Ai ?_|refine An hS ?_)
 refine Aq fun K hK=>?_;go_simp
 have hN:=(((((HB1.out.set_ 0 (.slice oA m1 oc)).set_ 1 (.slice uA m2 uc)).set_ 2 (.slice tA m3 tc)).set_ 3 (.slice eA m4 ec)):Blk ((((X.setCell ⟨w.heap.size+1,0,none⟩ (.slice oA m1 oc)).setCell ⟨w.heap.size+1,1,none⟩ (.slice uA m2 uc)).setCell ⟨w.heap.size+1,2,none⟩ (.slice tA m3 tc)).setCell ⟨w.heap.size+1,3,none⟩ (.slice eA m4 ec)) _ _ _);simp only[List.setIfInBounds_toArray,List.set_cons_zero,List.set_cons_succ] at hN;have HN:=Aa hN.drew;have HBW:=Aa (show Below w.heap.size w ((((X.setCell ⟨w.heap.size+1,0,none⟩ (.slice oA m1 oc)).setCell ⟨w.heap.size+1,1,none⟩ (.slice uA m2 uc)).setCell ⟨w.heap.size+1,2,none⟩ (.slice tA m3 tc)).setCell ⟨w.heap.size+1,3,none⟩ (.slice eA m4 ec)).drew from((((((Grow.below HG.out Ad).setCell (p:=⟨w.heap.size+1,0,none⟩) (Nat.le_succ _) _).setCell (p:=⟨w.heap.size+1,1,none⟩) (Nat.le_succ _) _).setCell (p:=⟨w.heap.size+1,2,none⟩) (Nat.le_succ _) _).setCell (p:=⟨w.heap.size+1,3,none⟩) (Nat.le_succ _) _).drew));clear hS p0 p1 p2 p3 hpl hrl r0 r1 hN HB1 HB0 HG;generalize ((((X.setCell ⟨w.heap.size+1,0,none⟩ (.slice oA m1 oc)).setCell ⟨w.heap.size+1,1,none⟩ (.slice uA m2 uc)).setCell ⟨w.heap.size+1,2,none⟩ (.slice tA m3 tc)).setCell ⟨w.heap.size+1,3,none⟩ (.slice eA m4 ec)).drew=V at *;refine Aj hK ?_;clear hK K;refine Ah ?_;have y0:=HN.out.cell 0;have y1:=HN.out.cell 1;have y2:=HN.out.cell 2;have y3:=HN.out.cell 3;have yl:=HN.out.lt;simp only[List.getElem?_toArray,List.getElem?_cons_zero,List.getElem?_cons_succ] at y0 y1 y2 y3;go_wp2_with fail
 exact bodyPost_ret (v:=.agg #[.slice oA m1 oc,.slice uA m2 uc,.slice tA m3 tc,.slice eA m4 ec]) (by simp[results,Tryz.results28,go_sem,y0,y1,y2,y3]) rfl ⟨rfl,HBW.out⟩
theorem Rq {N0:Nat} {w:World} {B:Nat} {A:Option Addr} {l:List (Int×Int)} (h:RowAt (Zfc N0) 96 w B A l):∀ x∈l,I64 x.2:=fun x hx=>by
 obtain⟨i,hi⟩:=List.getElem?_of_mem hx;obtain⟨_,_,_,_,_,hrel,_⟩:=h.get hi;obtain⟨_,_,_,_,hr⟩:=hrel;exact hr.2
theorem Zad {N0:Nat} {w:World} {B:Nat} {A:Option Addr} {ll:List (List (Int×Int))} (h:RowAt (Nx N0) 24 w B A ll):∀ l∈ll,∀ x∈l,I64 x.2:=fun l hl=>by
 obtain⟨i,hi⟩:=List.getElem?_of_mem hl;obtain⟨_,_,_,_,_,hrel,_⟩:=h.get hi;obtain⟨_,_,_,_,_,hr⟩:=hrel;exact Rq hr
theorem Rj {ll:List (List (Int×Int))} {l:List (Int×Int)} (h:l∈Uh ll):∃ l0∈ll,l=l0.take 12:=by
 unfold Uh at h;obtain⟨l0,h0,rfl⟩:=List.mem_map.1 h;exact⟨l0,List.mem_of_mem_take h0,rfl⟩
def AnS (pb zb:Nat) (cp cz:Array Value) (w':World):Prop:=Blk w' pb 26 cp∧Blk w' zb 30 cz
theorem Ig (ll:List (List (Int×Int))) (ml:List (Int×Int)) (cl:List Int) (size:Int) (z:Zn) (fA mA cA oA uA tA eA:Option Addr) (fc mc cc oc uc tc ec:Nat) (w:World) (h1:RowAt (Nx w.heap.size) 24 w w.heap.size fA ll) (h2:RowAt (Zfc w.heap.size) 96 w w.heap.size mA ml) (h3:Reads w w.heap.size 1 cA cl.length (ints cl)) (h4:ZnAt w w.heap.size z oA uA tA eA)
  (a1:ml.length≤mc) (a2:mc≤maxLen) (a3:cl.length≤cc) (a4:cc≤maxLen) (b1:z.org.length≤oc) (b2:z.cur.length≤uc) (b3:z.touch.length≤tc) (b4:z.ends.length≤ec) (k1:oc≤maxLen) (k2:uc≤maxLen) (k3:tc≤maxLen) (k4:ec≤maxLen) :
  Calls Tryz.prog 10 #[.agg #[.slice fA ll.length fc,.slice mA ml.length mc,.slice cA cl.length cc,.int .i64 size],.agg #[.slice oA z.org.length oc,.slice uA z.cur.length uc,.slice tA z.touch.length tc,.slice eA z.ends.length ec]] w fun e w'=>e=.returned (.bool true)∧Below w.heap.size w w':=by
 obtain⟨X,hX⟩:∃ X,X=(w.alloc (.cells #[.slice fA ll.length fc,.slice mA ml.length mc,.slice cA cl.length cc,.int .i64 size] 26)).alloc (.cells #[.slice oA z.org.length oc,.slice uA z.cur.length uc,.slice tA z.touch.length tc,.slice eA z.ends.length ec] 30):=⟨_,rfl⟩;have hbw:Below w.heap.size w X:=by rw[hX];exact(aliasBr.alloc Ad _).alloc (by simp) _
 have hS0:AnS w.heap.size (w.heap.size+1) #[.slice fA ll.length fc,.slice mA ml.length mc,.slice cA cl.length cc,.int .i64 size] #[.slice oA z.org.length oc,.slice uA z.cur.length uc,.slice tA z.touch.length tc,.slice eA z.ends.length ec] X:=by rw[hX];exact⟨(Blk.new _ _ _).alloc _,Blk.new_at _ _ _ (by simp)⟩
 have HX:=Aa hX;have H1:=Aa h1;have H2:=Aa (fun (W:World) (hb:Below w.heap.size w W)=>((Pp (k:=60) (Ka h2)).below hb Ad).more hb.size);have H3:=Aa (fun (W:World) (hb:Below w.heap.size w W)=>((Ly (k:=8) h3).below hb Ad).more hb.size);have H4:=Aa (Zfh h4);have HI:=Aa (Zad h1);have HI2:=Aa (Rq h2);obtain⟨n1,hn1⟩:∃ n,n=(ml.take 60).length:=⟨_,rfl⟩;obtain⟨n2,hn2⟩:∃ n,n=(cl.take 8).length:=⟨_,rfl⟩;obtain⟨n3,hn3⟩:∃ n,n=(Uh ll).length:=⟨_,rfl⟩;obtain⟨n4,hn4⟩:∃ n,n=(Oi z).org.length:=⟨_,rfl⟩;obtain⟨n5,hn5⟩:∃ n,n=(Oi z).cur.length:=⟨_,rfl⟩;obtain⟨n6,hn6⟩:∃ n,n=(Oi z).touch.length:=⟨_,rfl⟩;obtain⟨n7,hn7⟩:∃ n,n=(Oi z).ends.length:=⟨_,rfl⟩;have HF:=Aa (fun W (hb:Below w.heap.size w W)=>Xt W w.heap.size w.heap.size hb.size fA mA cA fc mc cc ll ml cl size (h1.below hb Ad) a1 a2 a3 a4);have HFZ:=Aa (fun W=>Pv W z oA uA tA eA oc uc tc ec b1 b2 b3 b4 k1 k2 k3 k4);have HD:=Aa fun A' c' W h0 h1 h2 h3=>Zbi (Uh ll) (ml.take 60) (cl.take 8) size (Oi z) A' mA cA oA uA tA eA c' mc cc oc uc tc ec W h0 h1 h2 h3 (Zfg z) (by unfold Uh;rw[List.length_map,List.length_take];omega) (fun l hl=>by obtain⟨l0,_,rfl⟩:=Rj hl;rw[List.length_take];omega) (by rw[List.length_take];omega) (by rw[List.length_take];omega) (fun l hl x hx=>by obtain⟨l0,h0,rfl⟩:=Rj hl;exact HI.out l0 h0 x (List.mem_of_mem_take hx)) (fun x hx=>HI2.out x (List.mem_of_mem_take hx))
 have HN1:=Aa hn1;have HN2:=Aa hn2;have HN3:=Aa hn3;have HN4:=Aa hn4;have HN5:=Aa hn5;have HN6:=Aa hn6;have HN7:=Aa hn7;rw[←hn1,←hn2,←hn3] at HF;rw[←hn4,←hn5,←hn6,←hn7] at HFZ;rw[←hn1,←hn2,←hn3,←hn4,←hn5,←hn6,←hn7] at HD;clear hn1 hn2 hn3 hn4 hn5 hn6 hn7;have HS0:=Aa hS0;have HBW:=Aa hbw;clear h1 h2 h3 h4 a1 a2 a3 a4 b1 b2 b3 b4 k1 k2 k3 k4 hX hbw hS0;go_enter Tryz.func10,Tryz.ntmps10;go_upto_region 1 with fail
 rw[←HX.out];clear HX;have hS:AnS w.heap.size (w.heap.size+1) #[.slice fA ll.length fc,.slice mA ml.length mc,.slice cA cl.length cc,.int .i64 size] #[.slice oA z.org.length oc,.slice uA z.cur.length uc,.slice tA z.touch.length tc,.slice eA z.ends.length ec] X.drew:=HS0.out;refine Aw (fun i=>!([0,3,5,6]:List Nat).contains i) (fun i=>([2,4]:List Nat).contains i) (fun i=>([3]:List Nat).contains i) [0,1,2,4,3,5,6,7,8] (AnS w.heap.size (w.heap.size+1) #[.slice fA ll.length fc,.slice mA ml.length mc,.slice cA cl.length cc,.int .i64 size] #[.slice oA z.org.length oc,.slice uA z.cur.length uc,.slice tA z.touch.length tc,.slice eA z.ends.length ec]) (by kernel_rfl) (by kernel_rfl) (by kernel_rfl) (by kernel_rfl) ?_;refine Aq fun K hK=>?_;go_simp
 refine(Yj _).mono ?_;rintro e w6 ⟨rfl,hb⟩;have HB6:=Aa (HBW.out.drew.trans (hb.mono HBW.out.size));have HS6:=Aa (show AnS w.heap.size (w.heap.size+1) #[.slice fA ll.length fc,.slice mA ml.length mc,.slice cA cl.length cc,.int .i64 size] #[.slice oA z.org.length oc,.slice uA z.cur.length uc,.slice tA z.touch.length tc,.slice eA z.ends.length ec] w6 from⟨Blk.go hS.1 hb,Blk.go hS.2 hb⟩);clear HBW HS0 hS hb;refine hK _ _ (fun _=>HS6.out) ?_;clear hK K
 iterate 1 (refine Ai ?_)
 refine Fw (v:=_) rfl rfl (by kernel_rfl) (fun _ _ _ h=>h) HS6.out rfl (fun wq hq=>by have hk:=hq.1;have q0:=hk.cell 0;have q1:=hk.cell 1;have q2:=hk.cell 2;have q3:=hk.cell 3;simp only[List.getElem?_toArray,List.getElem?_cons_zero,List.getElem?_cons_succ] at q0 q1 q2 q3;have ql:=hk.lt;clear hk hq;first|(go_simp;done)|(go_simp;rfl)) ?_;go_simp;refine Fw (v:=_) rfl rfl (by kernel_rfl) (fun _ _ _ h=>h) HS6.out rfl (fun wq hq=>by have hk:=hq.2;have q0:=hk.cell 0;have q1:=hk.cell 1;have q2:=hk.cell 2;have q3:=hk.cell 3;simp only[List.getElem?_toArray,List.getElem?_cons_zero,List.getElem?_cons_succ] at q0 q1 q2 q3;have ql:=hk.lt;clear hk hq;first|(go_simp;done)|(go_simp;rfl)) ?_;refine Aq fun K hK=>?_;go_simp
 refine(HF.out w6 HB6.out).mono ?_;rintro e w7 ⟨A',c',rfl,hR,hb⟩;have HB7:=Aa (HB6.out.trans (hb.mono HB6.out.size));have HS7:=Aa (show AnS w.heap.size (w.heap.size+1) #[.slice fA ll.length fc,.slice mA ml.length mc,.slice cA cl.length cc,.int .i64 size] #[.slice oA z.org.length oc,.slice uA z.cur.length uc,.slice tA z.touch.length tc,.slice eA z.ends.length ec] w7 from⟨Blk.go HS6.out.1 hb,Blk.go HS6.out.2 hb⟩);have HR:=Aa hR;clear HB6 HS6 hb hR HF;refine hK _ _ (fun _=>HS7.out) ?_;clear hK K;refine Aq fun K hK=>?_;go_simp
 refine(HFZ.out w7).mono ?_;rintro e w8 ⟨rfl,hb⟩;have HB8:=Aa (HB7.out.trans (hb.mono HB7.out.size));have HR8:=Aa (HR.out.go hb);clear HB7 HS7 hb HR HFZ;refine Aj hK ?_;clear hK K;refine Aq fun K hK=>?_;go_simp
 refine(HD.out A' c' w8 HR8.out (by rw[HN1.out];exact H2.out w8 HB8.out) (by rw[HN2.out];exact H3.out w8 HB8.out) ?_).mono ?_
 ·have k:∀ p:Addr,p.block<w.heap.size→w8.cell? p=w.cell? p:=fun p hp=>HB8.out.cell hp
  have:=H4.out.keep k;exact⟨this.org.more HB8.out.size,this.cur.more HB8.out.size,this.touch.more HB8.out.size,this.ends.more HB8.out.size⟩
 rintro e w9 ⟨rfl,hb⟩;have hbw:=HB8.out.trans (hb.mono HB8.out.size);clear HB8 HR8 hb;refine Aj hK ?_;clear hK K
 iterate 2 (refine Ai ?_)
 refine Ah ?_;go_wp2_with fail
 go_ret;exact⟨rfl,hbw⟩
end Go.Proofs.YtnhebmgibiomnaaGreat

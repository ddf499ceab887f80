/- Parts of the proof, joined: ZZone StA StC. -/
import Derived.Test.YtnhebmgibiomnaaGreatPb19
import Derived.Test.YtnhebmgibiomnaaGreatPb22
set_option linter.unusedVariables false
set_option linter.unusedSimpArgs false
set_option maxRecDepth 100000
set_option maxHeartbeats 8000000
namespace Go.Proofs.YtnhebmgibiomnaaGreat
open Go.RowKit Mc
theorem Fi (A A':Option Addr) (c c' B B':Nat) (l l':List Int) (w:World) (h:Reads w B 1 A l.length (ints l)) (h':Reads w B' 1 A' l'.length (ints l')) (hl:l.length≤1000000) (_hl':l'.length≤1000000) :
  Calls Tryz.prog 43 #[.slice A l.length c,.slice A' l'.length c'] w fun e w'=>e=.returned (.bool (decide (l=l')))∧Grow w w':=by
 by_cases hne:l.length=l'.length
 ·obtain⟨n,hn⟩:∃ n,n=l.length:=⟨_,rfl⟩;rw[←hne] at h' _hl' ⊢;rw[←hn] at h h' hl ⊢;have HN:=Aa hn;have HNE:=Aa hne;have H:=Aa h;have H':=Aa h';clear h h' hn hne _hl';have hnb:((n:Int) !=(n:Int))=false:=by simp
  go_enter Tryz.func43,Tryz.ntmps43;go_wp2_with fail
  go_loopw [5] (fun i wr=>∃ k:Nat,k≤n∧i=.int .i64 k∧Grow w wr∧wr.heap=w.heap∧l.take k=l'.take k) (fun i _=>n-(intOf i).toNat)
  case atStart=>exact⟨0,by omega,rfl,Fr.refl _ _,rfl,rfl⟩
  case round =>
   obtain⟨k,hk,rfl,hb,hh,htk⟩:=hrel;have HH:=Aa hh;have hcell:∀ p,wr.cell? p=w.cell? p:=fun p=>by unfold World.cell?;rw[hh]
   have HCE:=Aa hcell;have HTK:=Aa htk;have HB:=Aa hb;clear hh hcell htk hb;by_cases hlt:k<n
   ·obtain⟨x,hx⟩:∃ x,l[k]?=some x:=⟨_,List.getElem?_eq_getElem (by have:=HN.out;omega)⟩;obtain⟨y,hy⟩:∃ y,l'[k]?=some y:=⟨_,List.getElem?_eq_getElem (by have:=HN.out;have:=HNE.out;omega)⟩;obtain⟨b,off,rfl,hbB,hcells⟩:=H.out.2 (by omega);obtain⟨b',off',rfl,hbB',hcells'⟩:=H'.out.2 (by omega);have d0:=hcells _ _ (Xa l k x hx);have e0:=hcells' _ _ (Xa l' k y hy);rw[←HCE.out] at d0 e0;have HX:=Aa hx;have HY:=Aa hy;clear hcells hcells' hx hy;have i1:(0:Int)≤(k:Int):=by omega
    have i2:(k:Int)<(n:Int):=by omega
    by_cases hxy:x=y
    ·subst hxy;go_wp2_with fail
     go_quiet (fail);go_wp2;go_roundw
     case rel=>exact⟨k+1,by omega,by go_num,HB.out.drewN _,HH.out,Mn HX.out HY.out HTK.out⟩
     case measure=>simp[intOf];omega
    ·have hbn:(x !=y)=true:=by simpa using hxy
     go_wp2_with fail
     go_quiet (fail);go_wp2;go_ret;exact⟨Bm (decide_eq_false (Oo HX.out HY.out hxy)).symm,HB.out.drewN _⟩
   ·have hkn:k=n:=by omega
    subst hkn;go_wp2;go_ret;have he:l=l':=by
     have:=HTK.out;rw[List.take_of_length_le (by have:=HN.out;omega),List.take_of_length_le (by have:=HN.out;have:=HNE.out;omega)] at this;exact this
    exact⟨Bm (decide_eq_true he).symm,HB.out⟩
 ·have hnb:((l.length:Int) !=(l'.length:Int))=true:=by simp;omega
  have hno:¬ l=l':=fun e=>hne (by rw[e])
  have HNO:=Aa hno;clear h h' hno;generalize l.length=n at *;generalize l'.length=n' at *;go_enter Tryz.func43,Tryz.ntmps43;go_wp2_with fail
  go_ret;exact⟨Bm (decide_eq_false HNO.out).symm,Fr.refl _ _⟩
theorem Jb (A A':Option Addr) (c c' B B':Nat) (l l':List (Int×Int)) (w:World) (h:Reads w B 2 A l.length (pts l)) (h':Reads w B' 2 A' l'.length (pts l')) (hl:l.length≤1000000) (_hl':l'.length≤1000000) :
  Calls Tryz.prog 54 #[.slice A l.length c,.slice A' l'.length c'] w fun e w'=>e=.returned (.bool (decide (l=l')))∧Grow w w':=by
 by_cases hne:l.length=l'.length
 ·obtain⟨n,hn⟩:∃ n,n=l.length:=⟨_,rfl⟩;rw[←hne] at h' _hl' ⊢;rw[←hn] at h h' hl ⊢;have HN:=Aa hn;have HNE:=Aa hne;have H:=Aa h;have H':=Aa h';clear h h' hn hne _hl';have hnb:((n:Int) !=(n:Int))=false:=by simp
  go_enter Tryz.func54,Tryz.ntmps54;go_wp2_with fail
  go_loopw [5] (fun i wr=>∃ k:Nat,k≤n∧i=.int .i64 k∧Grow w wr∧wr.heap=w.heap∧l.take k=l'.take k) (fun i _=>n-(intOf i).toNat)
  case atStart=>exact⟨0,by omega,rfl,Fr.refl _ _,rfl,rfl⟩
  case round =>
   obtain⟨k,hk,rfl,hb,hh,htk⟩:=hrel;have HH:=Aa hh;have hcell:∀ p,wr.cell? p=w.cell? p:=fun p=>by unfold World.cell?;rw[hh]
   have HCE:=Aa hcell;have HTK:=Aa htk;have HB:=Aa hb;clear hh hcell htk hb;by_cases hlt:k<n
   ·obtain⟨x,hx⟩:∃ x,l[k]?=some x:=⟨_,List.getElem?_eq_getElem (by have:=HN.out;omega)⟩;obtain⟨y,hy⟩:∃ y,l'[k]?=some y:=⟨_,List.getElem?_eq_getElem (by have:=HN.out;have:=HNE.out;omega)⟩;obtain⟨b,off,rfl,hbB,hcells⟩:=H.out.2 (by omega);obtain⟨b',off',rfl,hbB',hcells'⟩:=H'.out.2 (by omega);obtain⟨g0,g1⟩:=Vx l k x hx;obtain⟨g2,g3⟩:=Vx l' k y hy;have d0:=hcells _ _ g0;have d1:=hcells _ _ g1;have e0:=hcells' _ _ g2;have e1:=hcells' _ _ g3;rw[←Nat.add_assoc] at d1 e1;rw[←HCE.out] at d0 d1 e0 e1;have HX:=Aa hx;have HY:=Aa hy;clear hcells hcells' hx hy g0 g1 g2 g3;have i1:(0:Int)≤(k:Int):=by omega
    have i2:(k:Int)<(n:Int):=by omega
    obtain⟨x1,x2⟩:=x;obtain⟨y1,y2⟩:=y;simp only at d0 d1 e0 e1;by_cases hx1:x1=y1
    ·subst hx1;by_cases hx2:x2=y2
     ·subst hx2;go_wp2_with fail
      go_quiet (fail);go_wp2;go_roundw
      case rel=>exact⟨k+1,by omega,by go_num,HB.out.drewN _,HH.out,Mn HX.out HY.out HTK.out⟩
      case measure=>simp[intOf];omega
     ·have hbn:(x2 !=y2)=true:=by simpa using hx2
      go_wp2_with fail
      go_quiet (fail);go_wp2;go_ret;exact⟨Bm (decide_eq_false (Oo HX.out HY.out (fun e=>hx2 (by injection e)))).symm,HB.out.drewN _⟩
    ·have hbn:(x1 !=y1)=true:=by simpa using hx1
     go_wp2_with fail
     go_quiet (fail);go_wp2;go_ret;exact⟨Bm (decide_eq_false (Oo HX.out HY.out (fun e=>hx1 (by injection e)))).symm,HB.out.drewN _⟩
   ·have hkn:k=n:=by omega
    subst hkn;go_wp2;go_ret;have he:l=l':=by
     have:=HTK.out;rw[List.take_of_length_le (by have:=HN.out;omega),List.take_of_length_le (by have:=HN.out;have:=HNE.out;omega)] at this;exact this
    exact⟨Bm (decide_eq_true he).symm,HB.out⟩
 ·have hnb:((l.length:Int) !=(l'.length:Int))=true:=by simp;omega
  have hno:¬ l=l':=fun e=>hne (by rw[e])
  have HNO:=Aa hno;clear h h' hno;generalize l.length=n at *;generalize l'.length=n' at *;go_enter Tryz.func54,Tryz.ntmps54;go_wp2_with fail
  go_ret;exact⟨Bm (decide_eq_false HNO.out).symm,Fr.refl _ _⟩
theorem Ln (z z':Zn) (B:Nat) (oA uA tA eA oA' uA' tA' eA':Option Addr) (oc uc tc ec oc' uc' tc' ec':Nat) (w:World) (hB:B≤w.heap.size) (h:ZnAt w B z oA uA tA eA) (h':ZnAt w B z' oA' uA' tA' eA') (hz:ZnOk z) (hz':ZnOk z') :
  Calls Tryz.prog 26 #[.agg #[.slice oA z.org.length oc,.slice uA z.cur.length uc,.slice tA z.touch.length tc,.slice eA z.ends.length ec],.agg #[.slice oA' z'.org.length oc',.slice uA' z'.cur.length uc',.slice tA' z'.touch.length tc',.slice eA' z'.ends.length ec']] w
   fun e w'=>e=.returned (.bool (decide (z.org=z'.org∧z.cur=z'.cur∧z.touch=z'.touch∧z.ends=z'.ends)))∧Grow w w':=by
 obtain⟨X,hX⟩:∃ X,X=(w.alloc (.cells #[.slice oA z.org.length oc,.slice uA z.cur.length uc,.slice tA z.touch.length tc,.slice eA z.ends.length ec] 30)).alloc (.cells #[.slice oA' z'.org.length oc',.slice uA' z'.cur.length uc',.slice tA' z'.touch.length tc',.slice eA' z'.ends.length ec'] 30):=⟨_,rfl⟩;have hXG:Grow w X:=by rw[hX];exact((Fr.refl _ w).alloc _).alloc _
 have hb0:Blk X w.heap.size 30 #[.slice oA z.org.length oc,.slice uA z.cur.length uc,.slice tA z.touch.length tc,.slice eA z.ends.length ec]:=by rw[hX];exact(Blk.new _ _ _).alloc _
 have hb1:Blk X (w.heap.size+1) 30 #[.slice oA' z'.org.length oc',.slice uA' z'.cur.length uc',.slice tA' z'.touch.length tc',.slice eA' z'.ends.length ec']:=by rw[hX];exact Blk.new_at _ _ _ (by simp)
 have HZ:=Aa (h.keep (W':=X) fun q hq=>hXG.cell (by omega) (fun x=>x));have HZ':=Aa (h'.keep (W':=X) fun q hq=>hXG.cell (by omega) (fun x=>x));have HXG:=Aa hXG;have HX:=Aa hX;have HO:=Aa hz;have HO':=Aa hz';have HB:=Aa hB;have HB0:=Aa hb0;have HB1:=Aa hb1;have hw1:w.heap.size<X.heap.size:=hb0.lt;clear h h' hz hz' hX hXG hb0 hb1 hB;go_enter Tryz.func26,Tryz.ntmps26;go_upto_region 1 with fail
 rw[←HX.out];have p0:=Ab HB0.out 0 rfl;have q0:=Ab HB1.out 0 rfl;go_wp2_with fail
 refine(Jb oA oA' oc oc' B B z.org z'.org _ HZ.out.org HZ'.out.org HO.out.org HO'.out.org).mono ?_;rintro e w1 ⟨rfl,hg⟩;have HG0:=Aa (HXG.out.trans hg);have HC0:=Aa (hg.blk HB0.out (fun x=>x));have HC1:=Aa (hg.blk HB1.out (fun x=>x));have HY:=Aa (HZ.out.keep (W':=w1) fun q hq=>hg.cell (by have:=HB.out;have:=HXG.out.size;omega) (fun x=>x));have HY':=Aa (HZ'.out.keep (W':=w1) fun q hq=>hg.cell (by have:=HB.out;have:=HXG.out.size;omega) (fun x=>x));clear p0 q0 hg HXG HB0 HB1 HZ HZ' HX;obtain⟨HXG,HB0,HB1,HZ,HZ'⟩:Hid _∧Hid _∧Hid _∧Hid _∧Hid _:=⟨HG0,HC0,HC1,HY,HY'⟩;clear HG0 HC0 HC1 HY HY';by_cases hc0:z.org=z'.org
 ·rw[decide_eq_true hc0];have HC0e:=Aa hc0;clear hc0;have p1:=Ab HB0.out 1 rfl;have q1:=Ab HB1.out 1 rfl;go_wp2_with fail
  refine(Jb uA uA' uc uc' B B z.cur z'.cur _ HZ.out.cur HZ'.out.cur HO.out.cur HO'.out.cur).mono ?_;rintro e w2 ⟨rfl,hg⟩;have HG1:=Aa (HXG.out.trans hg);have HC0:=Aa (hg.blk HB0.out (fun x=>x));have HC1:=Aa (hg.blk HB1.out (fun x=>x));have HY:=Aa (HZ.out.keep (W':=w2) fun q hq=>hg.cell (by have:=HB.out;have:=HXG.out.size;omega) (fun x=>x));have HY':=Aa (HZ'.out.keep (W':=w2) fun q hq=>hg.cell (by have:=HB.out;have:=HXG.out.size;omega) (fun x=>x));clear p1 q1 hg HXG HB0 HB1 HZ HZ';obtain⟨HXG,HB0,HB1,HZ,HZ'⟩:Hid _∧Hid _∧Hid _∧Hid _∧Hid _:=⟨HG1,HC0,HC1,HY,HY'⟩;clear HG1 HC0 HC1 HY HY';by_cases hc1:z.cur=z'.cur
  ·rw[decide_eq_true hc1];have HC1e:=Aa hc1;clear hc1;have p2:=Ab HB0.out 2 rfl;have q2:=Ab HB1.out 2 rfl;go_wp2_with fail
   refine(Fi tA tA' tc tc' B B z.touch z'.touch _ HZ.out.touch HZ'.out.touch HO.out.touch HO'.out.touch).mono ?_;rintro e w3 ⟨rfl,hg⟩;have HG2:=Aa (HXG.out.trans hg);have HC0:=Aa (hg.blk HB0.out (fun x=>x));have HC1:=Aa (hg.blk HB1.out (fun x=>x));have HY:=Aa (HZ.out.keep (W':=w3) fun q hq=>hg.cell (by have:=HB.out;have:=HXG.out.size;omega) (fun x=>x));have HY':=Aa (HZ'.out.keep (W':=w3) fun q hq=>hg.cell (by have:=HB.out;have:=HXG.out.size;omega) (fun x=>x));clear p2 q2 hg HXG HB0 HB1 HZ HZ';obtain⟨HXG,HB0,HB1,HZ,HZ'⟩:Hid _∧Hid _∧Hid _∧Hid _∧Hid _:=⟨HG2,HC0,HC1,HY,HY'⟩;clear HG2 HC0 HC1 HY HY';by_cases hc2:z.touch=z'.touch
   ·rw[decide_eq_true hc2];have HC2e:=Aa hc2;clear hc2;have p3:=Ab HB0.out 3 rfl;have q3:=Ab HB1.out 3 rfl;go_wp2_with fail
    refine(Fi eA eA' ec ec' B B z.ends z'.ends _ HZ.out.ends HZ'.out.ends HO.out.ends HO'.out.ends).mono ?_;rintro e w4 ⟨rfl,hg⟩;have HG3:=Aa (HXG.out.trans hg);have HC0:=Aa (hg.blk HB0.out (fun x=>x));have HC1:=Aa (hg.blk HB1.out (fun x=>x));have HY:=Aa (HZ.out.keep (W':=w4) fun q hq=>hg.cell (by have:=HB.out;have:=HXG.out.size;omega) (fun x=>x));have HY':=Aa (HZ'.out.keep (W':=w4) fun q hq=>hg.cell (by have:=HB.out;have:=HXG.out.size;omega) (fun x=>x));clear p3 q3 hg HXG HB0 HB1 HZ HZ';obtain⟨HXG,HB0,HB1,HZ,HZ'⟩:Hid _∧Hid _∧Hid _∧Hid _∧Hid _:=⟨HG3,HC0,HC1,HY,HY'⟩;clear HG3 HC0 HC1 HY HY';by_cases hc3:z.ends=z'.ends
    ·rw[decide_eq_true hc3];have HC3e:=Aa hc3;clear hc3;go_wp2_with fail
     go_ret;exact⟨Bm (decide_eq_true ⟨HC0e.out,HC1e.out,HC2e.out,HC3e.out⟩).symm,HXG.out⟩
    ·have hno:¬ (z.org=z'.org∧z.cur=z'.cur∧z.touch=z'.touch∧z.ends=z'.ends):=fun h=>hc3 h.2.2.2
     have HNO:=Aa hno;rw[decide_eq_false hc3];clear hno hc3;go_wp2_with fail
     go_ret;exact⟨Bm (decide_eq_false HNO.out).symm,HXG.out⟩
   ·have hno:¬ (z.org=z'.org∧z.cur=z'.cur∧z.touch=z'.touch∧z.ends=z'.ends):=fun h=>hc2 h.2.2.1
    have HNO:=Aa hno;rw[decide_eq_false hc2];clear hno hc2;go_wp2_with fail
    go_ret;exact⟨Bm (decide_eq_false HNO.out).symm,HXG.out⟩
  ·have hno:¬ (z.org=z'.org∧z.cur=z'.cur∧z.touch=z'.touch∧z.ends=z'.ends):=fun h=>hc1 h.2.1
   have HNO:=Aa hno;rw[decide_eq_false hc1];clear hno hc1;go_wp2_with fail
   go_ret;exact⟨Bm (decide_eq_false HNO.out).symm,HXG.out⟩
 ·have hno:¬ (z.org=z'.org∧z.cur=z'.cur∧z.touch=z'.touch∧z.ends=z'.ends):=fun h=>hc0 h.1
  have HNO:=Aa hno;rw[decide_eq_false hc0];clear hno hc0;go_wp2_with fail
  go_ret;exact⟨Bm (decide_eq_false HNO.out).symm,HXG.out⟩
theorem Grow.trans20 {w w1 w2:World} (h:Grow w w1) (k:Grow w1 w2):Grow w w2:=Fr.trans h (k.mono fun _ _ x=>x)
theorem My (w:World) (B:Nat) (hB:B≤w.heap.size) (z:Zn) (cv st sk:List Int) (n p n' p' r:Int) (A1 A2 A3 A4 A5 A6 A7 B1 B2 B3 B4 B5 B6 B7:Option Addr) (c1 c2 c3 c4 c5 c6 c7 d1 d2 d3 d4 d5 d6 d7:Nat) (hz:ZnOk z) (hcv:cv.length≤1000000) (hst:st.length≤1000000) (hsk:sk.length≤1000000)
  (h:ZnAt w B z A1 A2 A3 A4) (h5:Reads w B 1 A5 cv.length (ints cv)) (h6:Reads w B 1 A6 st.length (ints st)) (h7:Reads w B 1 A7 sk.length (ints sk)) (k:ZnAt w B z B1 B2 B3 B4) (k5:Reads w B 1 B5 cv.length (ints cv)) (k6:Reads w B 1 B6 st.length (ints st)) (k7:Reads w B 1 B7 sk.length (ints sk)) :
  Calls Tryz.prog 18 #[.agg #[.slice A1 z.org.length c1,.slice A2 z.cur.length c2,.slice A3 z.touch.length c3,.slice A4 z.ends.length c4,.slice A5 cv.length c5,.slice A6 st.length c6,.slice A7 sk.length c7,.int .i64 n,.int .i64 p,.int .i64 r],.agg #[.slice B1 z.org.length d1,.slice B2 z.cur.length d2,.slice B3 z.touch.length d3,.slice B4 z.ends.length d4,.slice B5 cv.length d5,.slice B6 st.length d6,.slice B7 sk.length d7,.int .i64 n',.int .i64 p',.int .i64 r]] w fun e w'=>e=.returned (.bool true)∧Grow w w':=by
 obtain⟨X,hX⟩:∃ X,X=(w.alloc (.cells #[.slice A1 z.org.length c1,.slice A2 z.cur.length c2,.slice A3 z.touch.length c3,.slice A4 z.ends.length c4,.slice A5 cv.length c5,.slice A6 st.length c6,.slice A7 sk.length c7,.int .i64 n,.int .i64 p,.int .i64 r] 39)).alloc (.cells #[.slice B1 z.org.length d1,.slice B2 z.cur.length d2,.slice B3 z.touch.length d3,.slice B4 z.ends.length d4,.slice B5 cv.length d5,.slice B6 st.length d6,.slice B7 sk.length d7,.int .i64 n',.int .i64 p',.int .i64 r] 39):=⟨_,rfl⟩;have hXG:Grow w X:=by rw[hX];exact((Fr.refl _ w).alloc _).alloc _
 have hb0:Blk X w.heap.size 39 #[.slice A1 z.org.length c1,.slice A2 z.cur.length c2,.slice A3 z.touch.length c3,.slice A4 z.ends.length c4,.slice A5 cv.length c5,.slice A6 st.length c6,.slice A7 sk.length c7,.int .i64 n,.int .i64 p,.int .i64 r]:=by rw[hX];exact(Blk.new _ _ _).alloc _
 have hb1:Blk X (w.heap.size+1) 39 #[.slice B1 z.org.length d1,.slice B2 z.cur.length d2,.slice B3 z.touch.length d3,.slice B4 z.ends.length d4,.slice B5 cv.length d5,.slice B6 st.length d6,.slice B7 sk.length d7,.int .i64 n',.int .i64 p',.int .i64 r]:=by rw[hX];exact Blk.new_at _ _ _ (by simp)
 have key:∀ q:Addr,q.block<B→X.cell? q=w.cell? q:=fun q hq=>hXG.cell (by omega) (fun x=>x)
 have H:=Aa (h.keep key);have K:=Aa (k.keep key);have H5:=Aa (h5.keep key);have H6:=Aa (h6.keep key);have H7:=Aa (h7.keep key);have K5:=Aa (k5.keep key);have K6:=Aa (k6.keep key);have K7:=Aa (k7.keep key);have HXG:=Aa hXG;have HX:=Aa hX;have HO:=Aa hz;have HB:=Aa hB;have HB0:=Aa hb0;have HB1:=Aa hb1;have hxB:B≤X.heap.size:=Nat.le_trans hB hXG.size;have HCV:=Aa hcv;have HST:=Aa hst;have HSK:=Aa hsk;clear h h5 h6 h7 k k5 k6 k7 hX hXG hb0 hb1 hB key hz hcv hst hsk;go_enter Tryz.func18,Tryz.ntmps18;go_upto_region 1 with fail
 rw[←HX.out];have p0:=Ab HB0.out 0 rfl;have p1:=Ab HB0.out 1 rfl;have p2:=Ab HB0.out 2 rfl;have p3:=Ab HB0.out 3 rfl;have q0:=Ab HB1.out 0 rfl;have q1:=Ab HB1.out 1 rfl;have q2:=Ab HB1.out 2 rfl;have q3:=Ab HB1.out 3 rfl;have l0:=HB0.out.lt;have l1:=HB1.out.lt;go_wp2_with fail
 have hsz:=Ln z z B A1 A2 A3 A4 B1 B2 B3 B4 c1 c2 c3 c4 d1 d2 d3 d4 X hxB H.out K.out HO.out HO.out;rw[decide_eq_true ⟨rfl,rfl,rfl,rfl⟩] at hsz;refine hsz.mono ?_;rintro e w1 ⟨rfl,hg1⟩;clear hsz p0 p1 p2 p3 q0 q1 q2 q3 l0 l1 HX;have G1:=Aa (Grow.trans20 HXG.out hg1);have V:=Aa hg1;clear hg1;have a5:=Ab ((V.out.blk HB0.out (fun x=>x))) 4 rfl;have b5:=Ab ((V.out.blk HB1.out (fun x=>x))) 4 rfl;have m0:=(V.out.blk HB0.out (fun x=>x)).lt;have m1:=(V.out.blk HB1.out (fun x=>x)).lt;go_wp2_with fail
 have hn:=Fi A5 B5 c5 d5 B B cv cv w1 (H5.out.keep fun q hq=>V.out.cell (by omega) (fun x=>x)) (K5.out.keep fun q hq=>V.out.cell (by omega) (fun x=>x)) HCV.out HCV.out;rw[decide_eq_true rfl] at hn;refine hn.mono ?_;rintro e w2 ⟨rfl,hg⟩;have V2:=Aa (Grow.trans20 V.out hg);clear hn hg a5 b5 m0 m1 V;obtain⟨V,_⟩:Hid _∧True:=⟨V2,trivial⟩;clear V2;have a6:=Ab ((V.out.blk HB0.out (fun x=>x))) 5 rfl;have b6:=Ab ((V.out.blk HB1.out (fun x=>x))) 5 rfl;have m0:=(V.out.blk HB0.out (fun x=>x)).lt;have m1:=(V.out.blk HB1.out (fun x=>x)).lt;go_wp2_with fail
 have hn:=Fi A6 B6 c6 d6 B B st st w2 (H6.out.keep fun q hq=>V.out.cell (by omega) (fun x=>x)) (K6.out.keep fun q hq=>V.out.cell (by omega) (fun x=>x)) HST.out HST.out;rw[decide_eq_true rfl] at hn;refine hn.mono ?_;rintro e w3 ⟨rfl,hg⟩;have V2:=Aa (Grow.trans20 V.out hg);clear hn hg a6 b6 m0 m1 V;obtain⟨V,_⟩:Hid _∧True:=⟨V2,trivial⟩;clear V2;have a7:=Ab ((V.out.blk HB0.out (fun x=>x))) 6 rfl;have b7:=Ab ((V.out.blk HB1.out (fun x=>x))) 6 rfl;have m0:=(V.out.blk HB0.out (fun x=>x)).lt;have m1:=(V.out.blk HB1.out (fun x=>x)).lt;go_wp2_with fail
 have hn:=Fi A7 B7 c7 d7 B B sk sk w3 (H7.out.keep fun q hq=>V.out.cell (by omega) (fun x=>x)) (K7.out.keep fun q hq=>V.out.cell (by omega) (fun x=>x)) HSK.out HSK.out;rw[decide_eq_true rfl] at hn;refine hn.mono ?_;rintro e w4 ⟨rfl,hg⟩;have V2:=Aa (Grow.trans20 V.out hg);clear hn hg a7 b7 m0 m1 V;obtain⟨V,_⟩:Hid _∧True:=⟨V2,trivial⟩;clear V2;have f0:=V.out.blk HB0.out (fun x=>x);have f1:=V.out.blk HB1.out (fun x=>x);have a7:=Ab f0 7 rfl;have a8:=Ab f0 8 rfl;have a9:=Ab f0 9 rfl;have b7:=Ab f1 7 rfl;have b8:=Ab f1 8 rfl;have b9:=Ab f1 9 rfl;have m0:=f0.lt;have m1:=f1.lt;have HE:=Aa (Grow.trans20 HXG.out V.out);clear f0 f1 V;go_wp2_with fail
 go_ret;exact⟨rfl,HE.out⟩
def Iw:List (Int×Int):=[(1,5),(1,7),(5,0)]
def sumRegs:List Sr.Reg:=[⟨1,0,0,0,5⟩,⟨1,1,0,0,7⟩,⟨5,0,0,1,0⟩,⟨42,0,0,0,1⟩]
theorem Zcu (w:World):Calls Tryz.prog 37 #[] w fun e w'=>∃ g k,e=.returned (.tuple #[.agg #[.slice none 0 0,.slice (some ⟨g,0,none⟩) 3 3,.slice none 0 0,.int .i64 0],.slice (some ⟨k,0,none⟩) 4 4]) ∧
  Below w.heap.size w w'∧Reads w' w'.heap.size 2 (some ⟨g,0,none⟩) 3 (Bg Iw)∧Reads w' w'.heap.size 5 (some ⟨k,0,none⟩) 4 (Ba sumRegs):=by
 go_enter Tryz.func37,Tryz.ntmps37;go_wp2_with fail
 refine bodyPost_ret (v:=.tuple #[.agg #[.slice none 0 0,.slice (some ⟨w.heap.size+1,0,none⟩) 3 3,.slice none 0 0,.int .i64 0],.slice (some ⟨w.heap.size+1+1,0,none⟩) 4 4]) (by simp[results,Tryz.results37,go_sem]) rfl ⟨w.heap.size+1,w.heap.size+1+1,rfl,(((aliasBr.alloc Ad _).alloc (by simp) _).alloc (by simp;omega) _),?_,?_⟩
 ·exact Reads.blk (cs:=Bg Iw) ((Blk.new_at _ _ _ (by simp)).alloc _) 2 3 rfl
 ·exact Reads.blk (cs:=Ba sumRegs) (Blk.new_at _ _ _ (by simp)) 5 4 rfl
end Go.Proofs.YtnhebmgibiomnaaGreat

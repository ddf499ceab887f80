/- Parts of the proof, joined: SrK. -/
import Derived.Test.YtnhebmgibiomnaaGreatPb10
import Derived.Test.YtnhebmgibiomnaaGreatPb11
set_option linter.unusedVariables false
set_option linter.unusedSimpArgs false
set_option maxRecDepth 100000
set_option maxHeartbeats 8000000
namespace Go.Proofs.YtnhebmgibiomnaaGreat
open Go.RowKit Mc
theorem Zh (w:World) (sb:Nat) (L:SLay) (s:Sr.St) (h:SrL w sb L s) (b1 b2:Nat) (axis:Int) (hax:0≤axis∧axis≤1) (k1:w.cell? ⟨b1,0,none⟩=some (.pointer (some ⟨sb,0,none⟩))) (k2:w.cell? ⟨b2,0,none⟩=some (.int .i64 axis)) (p:Nat) (x:Int×Int) (hx:s.m.org[p]?=some x) :
  Calls Tryz.prog 258 #[.int .i64 p,.pointer (some ⟨b1,0,none⟩),.pointer (some ⟨b2,0,none⟩)] w fun e w'=>e=.returned (.int .i64 (Az axis x))∧w.drew=w':=by
 have hp:=(List.getElem?_eq_some_iff.1 hx).1;have hcl:s.m.org.length≤1000000:=by have:=h.ok.m.curl;have:=h.ok.m.orgl;omega
 obtain⟨g,c,hv,hc1,_,hgl,hcells⟩:=Bb h.og (by omega);have d0:=hcells _ _ (Cp hx axis);have cc:=h.c64;rw[hv] at cc;clear h hx hv hcells;generalize hd:(if axis=1 then 1 else 0:Nat)=d at d0;have HD:=Aa hd;clear hd;go_enter Tryz.func258,Tryz.ntmps258;go_wp2_with fail
 have hS:w.drew.cell? ⟨b1,0,none⟩=some (.pointer (some ⟨sb,0,none⟩))∧w.drew.cell? ⟨sb,64,none⟩=some (.slice (some ⟨g,0,none⟩) s.m.org.length c)∧w.drew.cell? ⟨b2,0,none⟩=some (.int .i64 axis)∧w.drew.cell? ⟨g,p*2+d,none⟩=some (.int .i64 (Az axis x)):=⟨k1,cc,k2,d0⟩;refine Bl [8] [0,4,7,10] [] 12 (fun wq:World=>wq.cell? ⟨b1,0,none⟩=some (.pointer (some ⟨sb,0,none⟩))∧wq.cell? ⟨sb,64,none⟩=some (.slice (some ⟨g,0,none⟩) s.m.org.length c)∧wq.cell? ⟨b2,0,none⟩=some (.int .i64 axis)∧wq.cell? ⟨g,p*2+d,none⟩=some (.int .i64 (Az axis x))) ?_
 iterate 8 (first|refine Ai ?_|refine An hS ?_)
 refine Aq fun K hK=>?_;go_simp
 refine(Cc _ _ _ _ hax.1 hax.2).mono ?_;rintro e w5 ⟨rfl,rfl⟩;rw[HD.out];dsimp only;refine hK _ _ (fun _=>hS) ?_;clear hK K
 iterate 3 (first|refine Ai ?_|refine An hS ?_)
 refine Ah ?_;go_wp2;go_ret;exact⟨rfl,rfl⟩
theorem Zeh (w:World) (sb:Nat) (L:SLay) (s:Sr.St) (h:SrL w sb L s) (b1 b2:Nat) (axis:Int) (hax:0≤axis∧axis≤1) (k1:w.cell? ⟨b1,0,none⟩=some (.pointer (some ⟨sb,0,none⟩))) (k2:w.cell? ⟨b2,0,none⟩=some (.int .i64 axis)) (p:Nat) (x:Int×Int) (hx:s.m.cur[p]?=some x) :
  Calls Tryz.prog 259 #[.int .i64 p,.pointer (some ⟨b1,0,none⟩),.pointer (some ⟨b2,0,none⟩)] w fun e w'=>e=.returned (.int .i64 (Az axis x))∧w.drew=w':=by
 have hp:=(List.getElem?_eq_some_iff.1 hx).1;have hcl:s.m.cur.length≤1000000:=by have:=h.ok.m.curl;have:=h.ok.m.orgl;omega
 obtain⟨g,c,hv,hc1,_,hgl,hcells⟩:=Bb h.cu (by omega);have d0:=hcells _ _ (Cp hx axis);have cc:=h.c65;rw[hv] at cc;clear h hx hv hcells;generalize hd:(if axis=1 then 1 else 0:Nat)=d at d0;have HD:=Aa hd;clear hd;go_enter Tryz.func259,Tryz.ntmps259;go_wp2_with fail
 have hS:w.drew.cell? ⟨b1,0,none⟩=some (.pointer (some ⟨sb,0,none⟩))∧w.drew.cell? ⟨sb,65,none⟩=some (.slice (some ⟨g,0,none⟩) s.m.cur.length c)∧w.drew.cell? ⟨b2,0,none⟩=some (.int .i64 axis)∧w.drew.cell? ⟨g,p*2+d,none⟩=some (.int .i64 (Az axis x)):=⟨k1,cc,k2,d0⟩;refine Bl [8] [0,4,7,10] [] 12 (fun wq:World=>wq.cell? ⟨b1,0,none⟩=some (.pointer (some ⟨sb,0,none⟩))∧wq.cell? ⟨sb,65,none⟩=some (.slice (some ⟨g,0,none⟩) s.m.cur.length c)∧wq.cell? ⟨b2,0,none⟩=some (.int .i64 axis)∧wq.cell? ⟨g,p*2+d,none⟩=some (.int .i64 (Az axis x))) ?_
 iterate 8 (first|refine Ai ?_|refine An hS ?_)
 refine Aq fun K hK=>?_;go_simp
 refine(Cc _ _ _ _ hax.1 hax.2).mono ?_;rintro e w5 ⟨rfl,rfl⟩;rw[HD.out];dsimp only;refine hK _ _ (fun _=>hS) ?_;clear hK K
 iterate 3 (first|refine Ai ?_|refine An hS ?_)
 refine Ah ?_;go_wp2;go_ret;exact⟨rfl,rfl⟩
structure SBt (w:World) (sb:Nat) (L:SLay) (s:Sr.St) (axis:Int) (W:World):Prop where
 ma:SrL W sb L s
 k1:W.cell? ⟨w.heap.size,0,none⟩=some (.pointer (some ⟨sb,0,none⟩))
 k2:W.cell? ⟨w.heap.size+1,0,none⟩=some (.int .i64 axis)
 fr:Fr (SrS L sb) w W
 ax:0≤axis∧axis≤1
section
variable {w : World} {sb : Nat} {L : SLay} {s : Sr.St} {axis : Int} {W : World}
theorem SBt.drew (h:SBt w sb L s axis W):SBt w sb L s axis W.drew:=⟨h.ma.drew,h.k1,h.k2,h.fr.drew,h.ax⟩
theorem Ci (h:SBt w sb L s axis W) {p:Nat} {x:Int×Int} (hx:s.m.org[p]?=some x) {v:Int} (hv:Az axis x=v) :
  Calls Tryz.prog 258 #[.int .i64 p,.pointer (some ⟨w.heap.size,0,none⟩),.pointer (some ⟨w.heap.size+1,0,none⟩)] W fun e w'=>e=.returned (.int .i64 v)∧SBt w sb L s axis w' :=
 (Zh W sb L s h.ma _ _ axis h.ax h.k1 h.k2 p x hx).mono fun e w' hh=>⟨by rw[hh.1,hv],by rw[←hh.2];exact h.drew⟩
theorem Yy (h:SBt w sb L s axis W) {p:Nat} {x:Int×Int} (hx:s.m.cur[p]?=some x) {v:Int} (hv:Az axis x=v) :
  Calls Tryz.prog 259 #[.int .i64 p,.pointer (some ⟨w.heap.size,0,none⟩),.pointer (some ⟨w.heap.size+1,0,none⟩)] W fun e w'=>e=.returned (.int .i64 v)∧SBt w sb L s axis w' :=
 (Zeh W sb L s h.ma _ _ axis h.ax h.k1 h.k2 p x hx).mono fun e w' hh=>⟨by rw[hh.1,hv],by rw[←hh.2];exact h.drew⟩
end
theorem Mw (w:World) (sb:Nat) (L:SLay) (s:Sr.St) (h:SrL w sb L s) (axis:Int) (hax:0≤axis∧axis≤1) (p a b:Nat) (xp xa xb yp ya yb:Int×Int)
  (hxp:s.m.org[p]?=some xp) (hxa:s.m.org[a]?=some xa) (hxb:s.m.org[b]?=some xb) (hyp:s.m.cur[p]?=some yp) (hya:s.m.cur[a]?=some ya) (hyb:s.m.cur[b]?=some yb) :
  Calls Tryz.prog 230 #[.pointer (some ⟨sb,0,none⟩),.int .i64 p,.int .i64 a,.int .i64 b,.int .i64 axis] w (SPost w sb L { s with m := { s.m with cur:=Lu s.m.org axis s.m.cur p a b } }):=by
 have hpl:=(List.getElem?_eq_some_iff.1 hyp).1;have hcl:=h.ok.m.curl;obtain⟨g,c,hv,hc1,_,hgl,hcells⟩:=Bb h.cu (by omega);have HB:Hid (SBt w sb L s axis ((w.alloc (.cells #[.pointer (some ⟨sb,0,none⟩)] 98)).alloc (.cells #[.int .i64 axis] 3))):=Aa ⟨(h.alloc _).alloc _,by rw[World.cell?_alloc_lt _ _ _ (by simp)];exact(Blk.new w _ _).cell 0,(Blk.new_at _ _ _ (by simp)).cell 0,((Fr.refl _ w).alloc _).alloc _,hax⟩;have Hxp:=Aa hxp;have Hxa:=Aa hxa;have Hxb:=Aa hxb;have Hya:=Aa hya;have Hyb:=Aa hyb;have B1:=El (_s:=s.m) h.ok.m.org hxp axis;have B2:=El (_s:=s.m) h.ok.m.org hxa axis;have B3:=El (_s:=s.m) h.ok.m.org hxb axis;have B4:=El (_s:=s.m) h.ok.m.cur hya axis;have B5:=El (_s:=s.m) h.ok.m.cur hyb axis;have HBT:=Aa (Le (axis:=axis) hxp hxa hxb hya hyb);have HC:Hid (∀ (W:World),SrL W sb L s→W.cell? ⟨sb,65,none⟩=some (.slice (some ⟨g,0,none⟩) s.m.cur.length c)∧(∃ u,W.cell? ⟨g,p*2+(if axis=1 then 1 else 0),none⟩=some u)∧W.frozen? ⟨g,p*2+(if axis=1 then 1 else 0),none⟩=false):=Aa (fun W hW=>by
  refine⟨by rw[hW.c65,hv],?_⟩;obtain⟨g2,c2,x2,hv2,_,_,_,hc2,hf2⟩:=hW.pt hpl;rw[hv] at hv2
  injection hv2 with hv2
  injection hv2 with hv2
  injection hv2 with hv2
  subst hv2;exact⟨⟨_,hc2 axis⟩,hf2 _⟩)
 have HQ:Hid (∀ (W:World) (u:Int),SrL W sb L s→Fr (SrS L sb) w W→u=k32 (w64 (Hq s.m.org s.m.cur axis p a b))→SPost w sb L { s with m := { s.m with cur:=Lu s.m.org axis s.m.cur p a b } } (.returned (.tuple #[])) (W.setCell ⟨g,p*2+(if axis=1 then 1 else 0),none⟩ (.int .i64 u))):=Aa (fun W u hW hF hu=>by
  subst hu;rw[moved_eq hyp];unfold to_;exact .to (hW.setCu (by rw[hv];rfl) hyp axis _ (Db _) (hW.ok.m.cur _ (List.mem_of_getElem? hyp))) (hF.setCell (.inl (.inr (.inl (by rw[hv];rfl)))) _))
 clear h hxp hxa hxb hyp hya hyb hv hcells hgl;generalize hd:(if axis=1 then 1 else 0:Nat)=d at *;have HD:=Aa hd;clear hd;generalize hwp:Az axis xp=wp at *;generalize hwa:Az axis xa=wa at *;generalize hwb:Az axis xb=wb at *;generalize hia:Az axis ya=ia at *;generalize hib:Az axis yb=ib at *;have Ewp:=Aa hwp;have Ewa:=Aa hwa;have Ewb:=Aa hwb;have Eia:=Aa hia;have Eib:=Aa hib;clear hwp hwa hwb hia hib;by_cases hsw:wb<wa
 ·rw[if_pos hsw] at HBT;by_cases h1:wp≤wb
  ·go_enter Tryz.func230,Tryz.ntmps230;go_wp2_with fail
   refine(Ci HB.out Hxa.out Ewa.out).mono ?_;rintro e w5 ⟨rfl,hb⟩;clear HB;have HB:=Aa hb;clear hb;go_wp2_with fail
   refine(Ci HB.out Hxb.out Ewb.out).mono ?_;rintro e w5 ⟨rfl,hb⟩;clear HB;have HB:=Aa hb;clear hb;go_wp2_with fail
   refine(Ci HB.out Hxp.out Ewp.out).mono ?_;rintro e w5 ⟨rfl,hb⟩;clear HB;have HB:=Aa hb;clear hb;go_wp2_with fail
   refine(Ci HB.out Hxb.out Ewb.out).mono ?_;rintro e w5 ⟨rfl,hb⟩;clear HB;have HB:=Aa hb;clear hb;go_wp2_with fail
   refine(Yy HB.out Hyb.out Eib.out).mono ?_;rintro e w5 ⟨rfl,hb⟩;clear HB;have HB:=Aa hb;clear hb;go_wp2_with fail
   refine(Ci HB.out Hxb.out Ewb.out).mono ?_;rintro e w5 ⟨rfl,hb⟩;clear HB;have HB:=Aa hb;clear hb;go_wp2_with fail
   obtain⟨c3,⟨u0,cu⟩,fu⟩:=HC.out w5 HB.out.ma;have l1:=HB.out.ma.blk.lt;have hS:w5.drew.cell? ⟨w.heap.size,0,none⟩=some (.pointer (some ⟨sb,0,none⟩))∧w5.drew.cell? ⟨sb,65,none⟩=some (.slice (some ⟨g,0,none⟩) s.m.cur.length c)∧w5.drew.cell? ⟨w.heap.size+1,0,none⟩=some (.int .i64 axis):=⟨HB.out.k1,c3,HB.out.k2⟩;refine Aw (fun i=>!([8,10,12]:List Nat).contains i) (fun i=>([0,4,7]:List Nat).contains i) (fun i=>([]:List Nat).contains i) [0,1,2,3,4,5,6,7,9,8,10,11,12] (fun wq:World=>wq.cell? ⟨w.heap.size,0,none⟩=some (.pointer (some ⟨sb,0,none⟩))∧wq.cell? ⟨sb,65,none⟩=some (.slice (some ⟨g,0,none⟩) s.m.cur.length c)∧wq.cell? ⟨w.heap.size+1,0,none⟩=some (.int .i64 axis)) (by kernel_rfl) (by kernel_rfl) (by kernel_rfl) (by kernel_rfl) ?_
   iterate 9 (first|refine Ai ?_|refine An hS ?_)
   refine Aq fun K hK=>?_;go_simp
   refine(Cc _ _ _ _ hax.1 hax.2).mono ?_;rintro e w6 ⟨rfl,rfl⟩;rw[HD.out];dsimp only;refine Aj hK ?_;clear hK K;refine Aq fun K hK=>?_;go_simp
   refine(Cf _ _).mono ?_;rintro e w6 ⟨rfl,rfl⟩;dsimp only;refine Aj hK ?_;clear hK K
   iterate 1 (first|refine Ai ?_|refine An hS ?_)
   refine Aq fun K hK=>?_;go_simp
   refine Aj hK ?_;clear hK K;refine Ah ?_;go_wp2;go_end0;refine HQ.out w5.drew _ HB.out.ma.drew HB.out.fr.drew ?_;rw[HBT.out];rw[Rw (by omega)];exact congrArg k32 (Gf (by omega) (by omega)).symm
  ·by_cases h2:wa≤wp
   ·go_enter Tryz.func230,Tryz.ntmps230;go_wp2_with fail
    refine(Ci HB.out Hxa.out Ewa.out).mono ?_;rintro e w5 ⟨rfl,hb⟩;clear HB;have HB:=Aa hb;clear hb;go_wp2_with fail
    refine(Ci HB.out Hxb.out Ewb.out).mono ?_;rintro e w5 ⟨rfl,hb⟩;clear HB;have HB:=Aa hb;clear hb;go_wp2_with fail
    refine(Ci HB.out Hxp.out Ewp.out).mono ?_;rintro e w5 ⟨rfl,hb⟩;clear HB;have HB:=Aa hb;clear hb;go_wp2_with fail
    refine(Ci HB.out Hxb.out Ewb.out).mono ?_;rintro e w5 ⟨rfl,hb⟩;clear HB;have HB:=Aa hb;clear hb;go_wp2_with fail
    refine(Ci HB.out Hxa.out Ewa.out).mono ?_;rintro e w5 ⟨rfl,hb⟩;clear HB;have HB:=Aa hb;clear hb;go_wp2_with fail
    refine(Yy HB.out Hya.out Eia.out).mono ?_;rintro e w5 ⟨rfl,hb⟩;clear HB;have HB:=Aa hb;clear hb;go_wp2_with fail
    refine(Ci HB.out Hxa.out Ewa.out).mono ?_;rintro e w5 ⟨rfl,hb⟩;clear HB;have HB:=Aa hb;clear hb;go_wp2_with fail
    obtain⟨c3,⟨u0,cu⟩,fu⟩:=HC.out w5 HB.out.ma;have l1:=HB.out.ma.blk.lt;have hS:w5.drew.cell? ⟨w.heap.size,0,none⟩=some (.pointer (some ⟨sb,0,none⟩))∧w5.drew.cell? ⟨sb,65,none⟩=some (.slice (some ⟨g,0,none⟩) s.m.cur.length c)∧w5.drew.cell? ⟨w.heap.size+1,0,none⟩=some (.int .i64 axis):=⟨HB.out.k1,c3,HB.out.k2⟩;refine Aw (fun i=>!([8,10,12]:List Nat).contains i) (fun i=>([0,4,7]:List Nat).contains i) (fun i=>([]:List Nat).contains i) [0,1,2,3,4,5,6,7,9,8,10,11,12] (fun wq:World=>wq.cell? ⟨w.heap.size,0,none⟩=some (.pointer (some ⟨sb,0,none⟩))∧wq.cell? ⟨sb,65,none⟩=some (.slice (some ⟨g,0,none⟩) s.m.cur.length c)∧wq.cell? ⟨w.heap.size+1,0,none⟩=some (.int .i64 axis)) (by kernel_rfl) (by kernel_rfl) (by kernel_rfl) (by kernel_rfl) ?_
    iterate 9 (first|refine Ai ?_|refine An hS ?_)
    refine Aq fun K hK=>?_;go_simp
    refine(Cc _ _ _ _ hax.1 hax.2).mono ?_;rintro e w6 ⟨rfl,rfl⟩;rw[HD.out];dsimp only;refine Aj hK ?_;clear hK K;refine Aq fun K hK=>?_;go_simp
    refine(Cf _ _).mono ?_;rintro e w6 ⟨rfl,rfl⟩;dsimp only;refine Aj hK ?_;clear hK K
    iterate 1 (first|refine Ai ?_|refine An hS ?_)
    refine Aq fun K hK=>?_;go_simp
    refine Aj hK ?_;clear hK K;refine Ah ?_;go_wp2;go_end0;refine HQ.out w5.drew _ HB.out.ma.drew HB.out.fr.drew ?_;rw[HBT.out];rw[Rv (by omega) (by omega)];exact congrArg k32 (Gf (by omega) (by omega)).symm
   ·go_enter Tryz.func230,Tryz.ntmps230;go_wp2_with fail
    refine(Ci HB.out Hxa.out Ewa.out).mono ?_;rintro e w5 ⟨rfl,hb⟩;clear HB;have HB:=Aa hb;clear hb;go_wp2_with fail
    refine(Ci HB.out Hxb.out Ewb.out).mono ?_;rintro e w5 ⟨rfl,hb⟩;clear HB;have HB:=Aa hb;clear hb;go_wp2_with fail
    refine(Ci HB.out Hxp.out Ewp.out).mono ?_;rintro e w5 ⟨rfl,hb⟩;clear HB;have HB:=Aa hb;clear hb;go_wp2_with fail
    refine(Ci HB.out Hxb.out Ewb.out).mono ?_;rintro e w5 ⟨rfl,hb⟩;clear HB;have HB:=Aa hb;clear hb;go_wp2_with fail
    refine(Ci HB.out Hxa.out Ewa.out).mono ?_;rintro e w5 ⟨rfl,hb⟩;clear HB;have HB:=Aa hb;clear hb;go_wp2_with fail
    refine(Ci HB.out Hxa.out Ewa.out).mono ?_;rintro e w5 ⟨rfl,hb⟩;clear HB;have HB:=Aa hb;clear hb;go_wp2_with fail
    refine(Ci HB.out Hxb.out Ewb.out).mono ?_;rintro e w5 ⟨rfl,hb⟩;clear HB;have HB:=Aa hb;clear hb;go_wp2_with fail
    refine(Yy HB.out Hyb.out Eib.out).mono ?_;rintro e w5 ⟨rfl,hb⟩;clear HB;have HB:=Aa hb;clear hb;go_wp2_with fail
    refine(Ci HB.out Hxb.out Ewb.out).mono ?_;rintro e w5 ⟨rfl,hb⟩;clear HB;have HB:=Aa hb;clear hb;go_wp2_with fail
    refine(Yy HB.out Hya.out Eia.out).mono ?_;rintro e w5 ⟨rfl,hb⟩;clear HB;have HB:=Aa hb;clear hb;go_wp2_with fail
    refine(Yy HB.out Hyb.out Eib.out).mono ?_;rintro e w5 ⟨rfl,hb⟩;clear HB;have HB:=Aa hb;clear hb;go_wp2_with fail
    refine(Fh _ _ _).mono ?_;rintro e w6 ⟨rfl,rfl⟩;go_wp2_with fail
    obtain⟨c3,⟨u0,cu⟩,fu⟩:=HC.out w5 HB.out.ma;have l1:=HB.out.ma.blk.lt;have hS:w5.drew.cell? ⟨w.heap.size,0,none⟩=some (.pointer (some ⟨sb,0,none⟩))∧w5.drew.cell? ⟨sb,65,none⟩=some (.slice (some ⟨g,0,none⟩) s.m.cur.length c)∧w5.drew.cell? ⟨w.heap.size+1,0,none⟩=some (.int .i64 axis):=⟨HB.out.k1,c3,HB.out.k2⟩;refine Aw (fun i=>!([8,10,12]:List Nat).contains i) (fun i=>([0,4,7]:List Nat).contains i) (fun i=>([]:List Nat).contains i) [0,1,2,3,4,5,6,7,9,8,10,11,12] (fun wq:World=>wq.cell? ⟨w.heap.size,0,none⟩=some (.pointer (some ⟨sb,0,none⟩))∧wq.cell? ⟨sb,65,none⟩=some (.slice (some ⟨g,0,none⟩) s.m.cur.length c)∧wq.cell? ⟨w.heap.size+1,0,none⟩=some (.int .i64 axis)) (by kernel_rfl) (by kernel_rfl) (by kernel_rfl) (by kernel_rfl) ?_
    iterate 9 (first|refine Ai ?_|refine An hS ?_)
    refine Aq fun K hK=>?_;go_simp
    refine(Cc _ _ _ _ hax.1 hax.2).mono ?_;rintro e w6 ⟨rfl,rfl⟩;rw[HD.out];dsimp only;refine Aj hK ?_;clear hK K;refine Aq fun K hK=>?_;go_simp
    refine(Cf _ _).mono ?_;rintro e w6 ⟨rfl,rfl⟩;dsimp only;refine Aj hK ?_;clear hK K
    iterate 1 (first|refine Ai ?_|refine An hS ?_)
    refine Aq fun K hK=>?_;go_simp
    refine Aj hK ?_;clear hK K;refine Ah ?_;go_wp2;go_end0;refine HQ.out w5.drew _ HB.out.ma.drew HB.out.fr.drew ?_;rw[HBT.out];rw[Ru (by omega) (by omega),←Lj];simp only[Ed]
 ·rw[if_neg hsw] at HBT;by_cases h1:wp≤wa
  ·go_enter Tryz.func230,Tryz.ntmps230;go_wp2_with fail
   refine(Ci HB.out Hxa.out Ewa.out).mono ?_;rintro e w5 ⟨rfl,hb⟩;clear HB;have HB:=Aa hb;clear hb;go_wp2_with fail
   refine(Ci HB.out Hxb.out Ewb.out).mono ?_;rintro e w5 ⟨rfl,hb⟩;clear HB;have HB:=Aa hb;clear hb;go_wp2_with fail
   refine(Ci HB.out Hxp.out Ewp.out).mono ?_;rintro e w5 ⟨rfl,hb⟩;clear HB;have HB:=Aa hb;clear hb;go_wp2_with fail
   refine(Ci HB.out Hxa.out Ewa.out).mono ?_;rintro e w5 ⟨rfl,hb⟩;clear HB;have HB:=Aa hb;clear hb;go_wp2_with fail
   refine(Yy HB.out Hya.out Eia.out).mono ?_;rintro e w5 ⟨rfl,hb⟩;clear HB;have HB:=Aa hb;clear hb;go_wp2_with fail
   refine(Ci HB.out Hxa.out Ewa.out).mono ?_;rintro e w5 ⟨rfl,hb⟩;clear HB;have HB:=Aa hb;clear hb;go_wp2_with fail
   obtain⟨c3,⟨u0,cu⟩,fu⟩:=HC.out w5 HB.out.ma;have l1:=HB.out.ma.blk.lt;have hS:w5.drew.cell? ⟨w.heap.size,0,none⟩=some (.pointer (some ⟨sb,0,none⟩))∧w5.drew.cell? ⟨sb,65,none⟩=some (.slice (some ⟨g,0,none⟩) s.m.cur.length c)∧w5.drew.cell? ⟨w.heap.size+1,0,none⟩=some (.int .i64 axis):=⟨HB.out.k1,c3,HB.out.k2⟩;refine Aw (fun i=>!([8,10,12]:List Nat).contains i) (fun i=>([0,4,7]:List Nat).contains i) (fun i=>([]:List Nat).contains i) [0,1,2,3,4,5,6,7,9,8,10,11,12] (fun wq:World=>wq.cell? ⟨w.heap.size,0,none⟩=some (.pointer (some ⟨sb,0,none⟩))∧wq.cell? ⟨sb,65,none⟩=some (.slice (some ⟨g,0,none⟩) s.m.cur.length c)∧wq.cell? ⟨w.heap.size+1,0,none⟩=some (.int .i64 axis)) (by kernel_rfl) (by kernel_rfl) (by kernel_rfl) (by kernel_rfl) ?_
   iterate 9 (first|refine Ai ?_|refine An hS ?_)
   refine Aq fun K hK=>?_;go_simp
   refine(Cc _ _ _ _ hax.1 hax.2).mono ?_;rintro e w6 ⟨rfl,rfl⟩;rw[HD.out];dsimp only;refine Aj hK ?_;clear hK K;refine Aq fun K hK=>?_;go_simp
   refine(Cf _ _).mono ?_;rintro e w6 ⟨rfl,rfl⟩;dsimp only;refine Aj hK ?_;clear hK K
   iterate 1 (first|refine Ai ?_|refine An hS ?_)
   refine Aq fun K hK=>?_;go_simp
   refine Aj hK ?_;clear hK K;refine Ah ?_;go_wp2;go_end0;refine HQ.out w5.drew _ HB.out.ma.drew HB.out.fr.drew ?_;rw[HBT.out];rw[Rw (by omega)];exact congrArg k32 (Gf (by omega) (by omega)).symm
  ·by_cases h2:wb≤wp
   ·go_enter Tryz.func230,Tryz.ntmps230;go_wp2_with fail
    refine(Ci HB.out Hxa.out Ewa.out).mono ?_;rintro e w5 ⟨rfl,hb⟩;clear HB;have HB:=Aa hb;clear hb;go_wp2_with fail
    refine(Ci HB.out Hxb.out Ewb.out).mono ?_;rintro e w5 ⟨rfl,hb⟩;clear HB;have HB:=Aa hb;clear hb;go_wp2_with fail
    refine(Ci HB.out Hxp.out Ewp.out).mono ?_;rintro e w5 ⟨rfl,hb⟩;clear HB;have HB:=Aa hb;clear hb;go_wp2_with fail
    refine(Ci HB.out Hxa.out Ewa.out).mono ?_;rintro e w5 ⟨rfl,hb⟩;clear HB;have HB:=Aa hb;clear hb;go_wp2_with fail
    refine(Ci HB.out Hxb.out Ewb.out).mono ?_;rintro e w5 ⟨rfl,hb⟩;clear HB;have HB:=Aa hb;clear hb;go_wp2_with fail
    refine(Yy HB.out Hyb.out Eib.out).mono ?_;rintro e w5 ⟨rfl,hb⟩;clear HB;have HB:=Aa hb;clear hb;go_wp2_with fail
    refine(Ci HB.out Hxb.out Ewb.out).mono ?_;rintro e w5 ⟨rfl,hb⟩;clear HB;have HB:=Aa hb;clear hb;go_wp2_with fail
    obtain⟨c3,⟨u0,cu⟩,fu⟩:=HC.out w5 HB.out.ma;have l1:=HB.out.ma.blk.lt;have hS:w5.drew.cell? ⟨w.heap.size,0,none⟩=some (.pointer (some ⟨sb,0,none⟩))∧w5.drew.cell? ⟨sb,65,none⟩=some (.slice (some ⟨g,0,none⟩) s.m.cur.length c)∧w5.drew.cell? ⟨w.heap.size+1,0,none⟩=some (.int .i64 axis):=⟨HB.out.k1,c3,HB.out.k2⟩;refine Aw (fun i=>!([8,10,12]:List Nat).contains i) (fun i=>([0,4,7]:List Nat).contains i) (fun i=>([]:List Nat).contains i) [0,1,2,3,4,5,6,7,9,8,10,11,12] (fun wq:World=>wq.cell? ⟨w.heap.size,0,none⟩=some (.pointer (some ⟨sb,0,none⟩))∧wq.cell? ⟨sb,65,none⟩=some (.slice (some ⟨g,0,none⟩) s.m.cur.length c)∧wq.cell? ⟨w.heap.size+1,0,none⟩=some (.int .i64 axis)) (by kernel_rfl) (by kernel_rfl) (by kernel_rfl) (by kernel_rfl) ?_
    iterate 9 (first|refine Ai ?_|refine An hS ?_)
    refine Aq fun K hK=>?_;go_simp
    refine(Cc _ _ _ _ hax.1 hax.2).mono ?_;rintro e w6 ⟨rfl,rfl⟩;rw[HD.out];dsimp only;refine Aj hK ?_;clear hK K;refine Aq fun K hK=>?_;go_simp
    refine(Cf _ _).mono ?_;rintro e w6 ⟨rfl,rfl⟩;dsimp only;refine Aj hK ?_;clear hK K
    iterate 1 (first|refine Ai ?_|refine An hS ?_)
    refine Aq fun K hK=>?_;go_simp
    refine Aj hK ?_;clear hK K;refine Ah ?_;go_wp2;go_end0;refine HQ.out w5.drew _ HB.out.ma.drew HB.out.fr.drew ?_;rw[HBT.out];rw[Rv (by omega) (by omega)];exact congrArg k32 (Gf (by omega) (by omega)).symm
   ·go_enter Tryz.func230,Tryz.ntmps230;go_wp2_with fail
    refine(Ci HB.out Hxa.out Ewa.out).mono ?_;rintro e w5 ⟨rfl,hb⟩;clear HB;have HB:=Aa hb;clear hb;go_wp2_with fail
    refine(Ci HB.out Hxb.out Ewb.out).mono ?_;rintro e w5 ⟨rfl,hb⟩;clear HB;have HB:=Aa hb;clear hb;go_wp2_with fail
    refine(Ci HB.out Hxp.out Ewp.out).mono ?_;rintro e w5 ⟨rfl,hb⟩;clear HB;have HB:=Aa hb;clear hb;go_wp2_with fail
    refine(Ci HB.out Hxa.out Ewa.out).mono ?_;rintro e w5 ⟨rfl,hb⟩;clear HB;have HB:=Aa hb;clear hb;go_wp2_with fail
    refine(Ci HB.out Hxb.out Ewb.out).mono ?_;rintro e w5 ⟨rfl,hb⟩;clear HB;have HB:=Aa hb;clear hb;go_wp2_with fail
    refine(Ci HB.out Hxb.out Ewb.out).mono ?_;rintro e w5 ⟨rfl,hb⟩;clear HB;have HB:=Aa hb;clear hb;go_wp2_with fail
    refine(Ci HB.out Hxa.out Ewa.out).mono ?_;rintro e w5 ⟨rfl,hb⟩;clear HB;have HB:=Aa hb;clear hb;go_wp2_with fail
    refine(Yy HB.out Hya.out Eia.out).mono ?_;rintro e w5 ⟨rfl,hb⟩;clear HB;have HB:=Aa hb;clear hb;go_wp2_with fail
    refine(Ci HB.out Hxa.out Ewa.out).mono ?_;rintro e w5 ⟨rfl,hb⟩;clear HB;have HB:=Aa hb;clear hb;go_wp2_with fail
    refine(Yy HB.out Hyb.out Eib.out).mono ?_;rintro e w5 ⟨rfl,hb⟩;clear HB;have HB:=Aa hb;clear hb;go_wp2_with fail
    refine(Yy HB.out Hya.out Eia.out).mono ?_;rintro e w5 ⟨rfl,hb⟩;clear HB;have HB:=Aa hb;clear hb;go_wp2_with fail
    refine(Fh _ _ _).mono ?_;rintro e w6 ⟨rfl,rfl⟩;go_wp2_with fail
    obtain⟨c3,⟨u0,cu⟩,fu⟩:=HC.out w5 HB.out.ma;have l1:=HB.out.ma.blk.lt;have hS:w5.drew.cell? ⟨w.heap.size,0,none⟩=some (.pointer (some ⟨sb,0,none⟩))∧w5.drew.cell? ⟨sb,65,none⟩=some (.slice (some ⟨g,0,none⟩) s.m.cur.length c)∧w5.drew.cell? ⟨w.heap.size+1,0,none⟩=some (.int .i64 axis):=⟨HB.out.k1,c3,HB.out.k2⟩;refine Aw (fun i=>!([8,10,12]:List Nat).contains i) (fun i=>([0,4,7]:List Nat).contains i) (fun i=>([]:List Nat).contains i) [0,1,2,3,4,5,6,7,9,8,10,11,12] (fun wq:World=>wq.cell? ⟨w.heap.size,0,none⟩=some (.pointer (some ⟨sb,0,none⟩))∧wq.cell? ⟨sb,65,none⟩=some (.slice (some ⟨g,0,none⟩) s.m.cur.length c)∧wq.cell? ⟨w.heap.size+1,0,none⟩=some (.int .i64 axis)) (by kernel_rfl) (by kernel_rfl) (by kernel_rfl) (by kernel_rfl) ?_
    iterate 9 (first|refine Ai ?_|refine An hS ?_)
    refine Aq fun K hK=>?_;go_simp
    refine(Cc _ _ _ _ hax.1 hax.2).mono ?_;rintro e w6 ⟨rfl,rfl⟩;rw[HD.out];dsimp only;refine Aj hK ?_;clear hK K;refine Aq fun K hK=>?_;go_simp
    refine(Cf _ _).mono ?_;rintro e w6 ⟨rfl,rfl⟩;dsimp only;refine Aj hK ?_;clear hK K
    iterate 1 (first|refine Ai ?_|refine An hS ?_)
    refine Aq fun K hK=>?_;go_simp
    refine Aj hK ?_;clear hK K;refine Ah ?_;go_wp2;go_end0;refine HQ.out w5.drew _ HB.out.ma.drew HB.out.fr.drew ?_;rw[HBT.out];rw[Ru (by omega) (by omega),←Lj];simp only[Ed]
end Go.Proofs.YtnhebmgibiomnaaGreat

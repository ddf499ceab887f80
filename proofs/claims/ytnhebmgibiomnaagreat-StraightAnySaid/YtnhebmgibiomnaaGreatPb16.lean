/- Parts of the proof, joined: MaZ Ran. -/
import Derived.Test.YtnhebmgibiomnaaGreatPb15
set_option linter.unusedVariables false
set_option linter.unusedSimpArgs false
set_option maxRecDepth 100000
set_option maxHeartbeats 8000000
namespace Go.Proofs.YtnhebmgibiomnaaGreat
open Go.RowKit Mc
theorem Lb (n a:Int) (s:St):(deed n a s).steps=s.steps∧(deed n a s).peak=s.peak:=by
 unfold deed;simp only;split <;> first|exact⟨rfl,rfl⟩|skip
 all_goals first
  | (unfold goes;split <;> exact⟨rfl,rfl⟩)
  | (unfold pass;split <;> exact⟨rfl,rfl⟩)
  | (unfold call;split <;> exact⟨rfl,rfl⟩)
  | (unfold pass;split <;> split <;> exact⟨rfl,rfl⟩)
  | (unfold pass;split;(split <;> exact⟨rfl,rfl⟩);exact⟨rfl,rfl⟩)
theorem Ni {s s':St} {op a:Int} (h:next s=(s',some (op,a))) :
  ∃ f r,s'.frames=f::r∧f.next<f.code.length∧∃ n:Nat,op=n∧1≤n∧n≤39∧Ij s' = { s' with frames := { f with next:=f.next+1 } :: r }∧CanDo n a (Ij s')∧s'.steps=s.steps∧s'.peak=s.peak:=by
 unfold next at h;split at h
 ·cases h
 ·cases hfs:Mc.settle s.frames with
  | nil=>rw[hfs] at h;cases h
  | cons f r =>
   rw[hfs] at h;simp only at h;generalize hE:De { s with frames:=f::r } (f.code.getD f.next (0,0)).1 (f.code.getD f.next (0,0)).2 (f.code.length-1-f.next:Int)=e at h;by_cases h0:e=0
   ·rw[if_pos h0] at h
    injection h with h1 h2
    injection h2 with h2
    rw[h2] at hE;simp only at hE;rw[h0] at hE;have hb:Ij s' = { s' with frames := { f with next:=f.next+1 } :: r } := by subst h1;rfl
    have hlt:f.next<f.code.length:=by
     have:∀ (l:List Fm) f r,Mc.settle l=f::r→f.next<f.code.length:=by
      intro l
      induction l with
      | nil=>intro f r h;cases h
      | cons g q ih =>
       intro f r h;unfold Mc.settle at h;split at h
       ·injection h with e1 e2;subst e1;assumption
       ·split at h
        ·injection h with e1 e2;subst e1;simp only;omega
        ·exact ih f r h
     exact this _ _ _ hfs
    unfold De at hE;split at hE
    ·cases hE
    ·split at hE
     ·cases hE
     ·split at hE
      ·cases hE
      ·split at hE
       ·cases hE
       ·rename_i q1 q2 q3 q4;simp only at q2 q3 q4;obtain⟨n,hn⟩:=Int.eq_ofNat_of_zero_le (show 0≤op by omega);refine⟨f,r,by subst h1;rfl,hlt,n,hn,by omega,by omega,hb,?_,by subst h1;rfl,by subst h1;rfl⟩;rw[hb];rw[hn] at q2 q3 q4;subst h1;refine⟨by simp only;omega,by simp only;omega,fun hj=>⟨_,_,rfl,?_⟩,fun hj=>?_⟩
        ·simp only;have:¬ (a<0∨(f.code.length-1-f.next:Int)<a):=fun hh=>q3 ⟨by omega,hh⟩
         omega
        ·simp only[List.length_cons] at q4 ⊢;have:¬ (a<0∨(s.funcs.length:Int)≤a∨20<r.length+1):=fun hh=>q4 ⟨by omega,hh⟩
         omega
   ·rw[if_neg h0] at h;cases h
theorem step_none {s s':St} (h:next s=(s',none)):Mc.step s=(s',false):=by unfold Mc.step;rw[h]
theorem step_some {s s':St} {ins:Int×Int} (h:next s=(s',some ins)):Mc.step s=({ deed ins.1 ins.2 (Ij s') with steps:=(deed ins.1 ins.2 (Ij s')).steps+1,peak:=max (deed ins.1 ins.2 (Ij s')).peak (deed ins.1 ins.2 (Ij s')).stack.length },true):=by unfold Mc.step;rw[h]
def Lh (w:World) (mb:Nat) (O:Nat→Prop) (s:St) (e:Ending) (w':World):Prop:=e=.returned (.bool (Mc.step s).2)∧(∃ L',MaL w' mb (ext O w w') L' (Mc.step s).1)∧Fr O w w'
theorem Zfm {w:World} {O:Nat→Prop} {db:Nat} (h:Deeds w O db) {n:Nat} (h1:1≤n) (h2:n≤39) :
  ∃ bs,DeedBox w O bs n∧∀ W:World,W.heap[db]?=w.heap[db]?→Sem.run Tryz.prog (Instr.lookup 207 (.map (some db)) (.int .i64 (n:Int)) false) W=.ok (Kk bs n) W:=by
 obtain⟨_,bs,clock,hm,hbx⟩:=h;refine⟨bs,hbx n h1 h2,fun W hW=>?_⟩;rw[hm] at hW;have hj:(Eg bs 39).toArray.toList[n-1]?=some ⟨.int .i64 ((n-1+1:Nat):Int),Kk bs (n-1+1),n-1⟩:=by
  unfold Eg;rw[List.toList_toArray,List.getElem?_map,List.getElem?_range (by omega)];rfl
 rw[show n-1+1=n by omega] at hj;refine Gt (P:=Tryz.prog) Tryz.underlying207 Tryz.underlying3 hW hj rfl fun j' e' hj' he'=>?_
 unfold Eg at he';rw[List.toList_toArray,List.getElem?_map,List.getElem?_range (by omega)] at he';simp only[Option.map_some,Option.some.injEq] at he';subst he';exact⟨_,rfl,by omega⟩
theorem Zo (w:World) (mb:Nat) (O:Nat→Prop) (L:Lay) (s:St) (h:MaL w mb O L s) (hst:s.steps≤1000000000) :
  Calls Tryz.prog 81 #[.pointer (some ⟨mb,0,none⟩)] w (Lh w mb O s):=by
 have HN:=Aa (Rd w mb O L s h);have hmbl:=h.blk.lt;clear h;go_enter Tryz.func81,Tryz.ntmps81;go_wp2_with fail
 refine HN.out.mono ?_;rintro e w1 ⟨⟨x,y,rfl,hxy⟩,⟨L1,hM1⟩,hF1⟩;clear HN;rcases hnx:next s with⟨s',o⟩
 rw[hnx] at hxy hM1;simp only at hxy hM1;cases o with
 | none =>
  have HP:Hid (Lh w mb O s (.returned (.bool false)) (w1.alloc (.cells #[.int .i64 x,.int .i64 y] 96))):=Aa ⟨by rw[step_none hnx],⟨L1,by rw[step_none hnx];exact(hM1.alloc _).mono (fun _ h=>.inl h) (fun k hk=>by rcases hk with hk|hk;exact(hM1.alloc _).olt k hk;exact hk.2)⟩,hF1.alloc _⟩;clear hM1 hF1 hxy;simp only[Option.isSome_none];go_wp2_with fail
  go_ret;exact HP.out
 | some ins =>
  have:=hxy ins rfl;subst this;obtain⟨f,r,hfr,hfl,n,rfl,hn1,hn2,hbump,hcan,hs1,hs2⟩:=Ni hnx;simp only[Option.isSome_some];have HSS:=Aa (step_some hnx);obtain⟨g,c,v,vs,ht0⟩:=hM1.top hfr;have hokf:=hM1.ok.frames f (by rw[hfr];simp);have hM:=hM1.alloc (.cells #[.int .i64 (n:Int),.int .i64 y] 96);have hF:=hF1.alloc (.cells #[.int .i64 (n:Int),.int .i64 y] 96);have hib:g≠w1.heap.size:=fun e=>hM1.notO Ad (e ▸ ht0.gO)
  have hBi:=Blk.new w1 96 #[.int .i64 (n:Int),.int .i64 y];have HNO:=Aa (hM1.notO (Nat.le_refl w1.heap.size));have ht:Top (w1.alloc (.cells #[.int .i64 (n:Int),.int .i64 y] 96)) mb O L1 s' f r g c v vs:=ht0.keep (fun k hk=>Below.heap_alloc _ _ _ (hM1.olt k hk)) (by simp);have HCAN:=Aa hcan;have HS1:=Aa hs1;clear hM1 hF1 ht0 hxy hcan hs1 hs2 hnx;go_wp2_with fail
  generalize w1.alloc (.cells #[.int .i64 (n:Int),.int .i64 y] 96)=W at *;generalize w1.heap.size=ib at *;have HM2:Hid (MaL ((W.setCell ⟨g,r.length*3+1,none⟩ (.int .i64 ((f.next:Int)+1))).drew) mb O L1 (Ij s')):=Aa (by
   rw[hbump,show (f.next:Int)+1=((f.next+1:Nat):Int) by omega];exact(hM.setFm hfr ht (f' := { f with next:=f.next+1 }) (n:=f.next+1) (j:=r.length*3+1) (by omega) rfl (Ma _ vs f r ht.vsl _) ⟨by simp only;omega,hokf.2.1⟩).drew)
  have HF2:=Aa ((hF.setCell (p:=⟨g,r.length*3+1,none⟩) (.inl ht.gO) (.int .i64 ((f.next:Int)+1))).drew);have HI2:=Aa ((hBi.far (p:=⟨g,r.length*3+1,none⟩) hib.symm (.int .i64 ((f.next:Int)+1))).drew);have t1:=ht.c1;have tf1:=ht.fz (r.length*3+1);have tg:=ht.glt;have tgm:=ht.gmb;have tcap:=ht.cap;have c1:=hM.blk.cell 1;rw[hM.c.c1,ht.fr] at c1;have lmb:=hM.blk.lt;have hfl2:=hM.ok.flen;rw[hfr,List.length_cons] at hfl2;obtain⟨hb1,hb2,hb3⟩:=hokf;clear hM hF ht hfr hbump hBi hib;generalize hm:r.length=m at *;generalize hnx:f.next=nx at *;clear hm hnx;obtain⟨k,hk1,hk2,hk⟩:∃ k,m<k∧k≤m+1∧m+1=k:=⟨m+1,by omega,by omega,rfl⟩;rw[hk] at c1 tcap;clear hk;have hw1:IntKind.i64.wrap ((k:Int)-1)=(m:Int):=by rw[IntWalk.i64_in _ (by omega)];omega
  have hw2:IntKind.i64.wrap ((nx:Int)+1)=(nx:Int)+1:=by rw[IntWalk.i64_in _ (by omega)]
  go_region;go_wp2_with fail
  clear t1 tf1 tg c1 lmb hw1 hw2;generalize (W.setCell ⟨g,m*3+1,none⟩ (.int .i64 ((nx:Int)+1))).drew=W2 at *;generalize hsb:Ij s'=sb at *;have i0:=Ab HI2.out 0 rfl;have i1:=Ab HI2.out 1 rfl;have c49:=HM2.out.blk.cell 49;rw[HM2.out.c.c49] at c49;obtain⟨bs,hbx,hlk0⟩:=Zfm HM2.out.dd hn1 hn2;have hlk:=hlk0 W2.drew rfl;obtain⟨id,hid1,hid2,hcall⟩:=Zbk HM2.out.drew (a:=y) hn1 hn2 HCAN.out (hbx.keep rfl (fun _ _ _ h=>h.drew) (fun _ h=>h));have hcap:∃ caps,Kk bs n=.func (.func id) #[] caps∧(caps = #[]∨∃ p,caps = #[p])∧Calls Tryz.prog id (#[.pointer (some ⟨mb,0,none⟩),.int .i64 y]++caps) W2.drew (MPost W2.drew mb O (deed n y sb)):=by
   unfold Kk;rw[hid1];cases hq:(Jw n).2 with
   | none=>rw[hq] at hcall;exact⟨_,rfl,.inl rfl,hcall⟩
   | some q=>rw[hq] at hcall;exact⟨_,rfl,.inr ⟨_,rfl⟩,hcall⟩
  obtain⟨caps,hv,hcaps,hcall⟩:=hcap;rw[hv] at hlk;have HDS:=Aa (Lb (n:Int) y sb);have hsbs:sb.steps=s.steps:=by rw[←HS1.out,←hsb];unfold Ij;split <;> rfl
  clear hlk0 hbx hv hid1 hsb;have HSB:=Aa hsbs;clear hsbs;rcases hcaps with rfl|⟨p,rfl⟩
  ·have HCALL:Hid (Calls Tryz.prog id #[.pointer (some ⟨mb,0,none⟩),.int .i64 y] W2.drew (MPost W2.drew mb O (deed n y sb))):=Aa (by first|exact hcall|simpa using hcall);go_still_tail 10,(by kernel_rfl);change wpList _ _ _ _ _ W2.drew;go_wp2_with fail
   refine HCALL.out.mono ?_;rintro e w3 ⟨rfl,⟨L3,hM3⟩,hF3⟩;clear HCALL hcall hlk hid2 i0 i1 c49 HI2;generalize deed n y sb=d at *;have hds:d.steps≤1000000000:=by rw[HDS.out.1,HSB.out];exact hst
   have hpk:=hM3.ok.peak;have hsl:=hM3.ok.slen;obtain⟨Ak,ck,hvk,_,_⟩:=hM3.sk.form;have c40:=hM3.blk.cell 40;rw[hM3.c.c40,hvk] at c40;have c45:=hM3.blk.cell 45;rw[hM3.c.c45] at c45;have c46:=hM3.blk.cell 46;rw[hM3.c.c46] at c46;have f45:=hM3.blk.frozen 45;have f46:=hM3.blk.frozen 46;have lmb3:=hM3.blk.lt;have h4:=hM3.set_ (hM3.c.setSteps (d.steps+1)) (hM3.ok.cells_ hM3.ok.store hM3.ok.stl hM3.ok.look hM3.ok.move hM3.ok.mode hM3.ok.peak);have hF4:=hF3.setCell (p:=⟨mb,45,none⟩) (.inl HM2.out.mbO) (.int .i64 ((d.steps+1:Nat):Int));have h5:=h4.set_ (h4.c.setPeak (max d.peak d.stack.length)) (h4.ok.cells_ h4.ok.store h4.ok.stl h4.ok.look h4.ok.move h4.ok.mode (by omega));have hF5:=hF4.setCell (p:=⟨mb,46,none⟩) (.inl HM2.out.mbO) (.int .i64 ((max d.peak d.stack.length:Nat):Int));have hcs:((d.steps+1:Nat):Int)=(d.steps:Int)+1:=by omega
   have hcm:((max d.peak d.stack.length:Nat):Int)=max (d.peak:Int) (d.stack.length:Int):=by omega
   rw[hcs] at h4 h5 hF4 hF5;rw[hcm] at h5 hF5;have HP:Hid (Lh w mb O s (.returned (.bool true)) ((((w3.setCell ⟨mb,45,none⟩ (.int .i64 ((d.steps:Int)+1))).setCell ⟨mb,46,none⟩ (.int .i64 (max (d.peak:Int) (d.stack.length:Int))))).drew)):=Aa (by
    have hz1:=HF2.out.size;have hz2:=hF3.size;unfold Lh;rw[HSS.out];refine⟨rfl,⟨_,h5.drew.mono (fun k hk=>?_) (fun k hk=>?_)⟩,HF2.out.drew.trans hF5.drew⟩
    ·rcases hk with hk|hk
     ·exact .inl hk
     ·refine .inr ⟨?_,?_⟩
      ·have:W2.drew.heap.size=W2.heap.size:=rfl;omega
      ·have:=hk.2;simpa [World.setCell] using this
    ·rcases hk with hk|hk
     ·exact h5.drew.olt k (.inl hk)
     ·exact hk.2)
   clear h4 h5 hF4 hF5 hcs hcm hvk hM3 hF3;generalize d.steps=dst at *;generalize d.peak=dpk at *;generalize d.stack.length=dsl at *;have hw5:IntKind.i64.wrap ((dst:Int)+1)=(dst:Int)+1:=by rw[IntWalk.i64_in _ (by omega)]
   go_wp2_with fail
   have c46':(w3.setCell ⟨mb,45,none⟩ (.int .i64 ((dst:Int)+1))).cell? ⟨mb,46,none⟩=some (.int .i64 dpk):=(World.cell?_setCell_other _ _ _ _ (fun e=>by injection e with e1 e2;omega)).trans c46;have c40':(w3.setCell ⟨mb,45,none⟩ (.int .i64 ((dst:Int)+1))).cell? ⟨mb,40,none⟩=some (.slice Ak dsl ck):=(World.cell?_setCell_other _ _ _ _ (fun e=>by injection e with e1 e2;omega)).trans c40;have f46':(w3.setCell ⟨mb,45,none⟩ (.int .i64 ((dst:Int)+1))).frozen? ⟨mb,46,none⟩=false:=by rw[World.frozen?_setCell];exact f46
   have lmb4:mb<(w3.setCell ⟨mb,45,none⟩ (.int .i64 ((dst:Int)+1))).heap.size:=by simpa [World.setCell] using lmb3
   clear c40 c45 c46 f45 f46 lmb3 hw5;generalize w3.setCell ⟨mb,45,none⟩ (.int .i64 ((dst:Int)+1))=W4 at *;by_cases hdl:(dpk:Int)<(dsl:Int)
   ·rw[show max (dpk:Int) (dsl:Int)=dsl by omega] at HP;go_region;go_wp2_with fail
    go_ret;exact HP.out
   ·rw[show max (dpk:Int) (dsl:Int)=dpk by omega] at HP;go_region;go_wp2_with fail
    go_ret;exact HP.out
  ·have HCALL:Hid (Calls Tryz.prog id #[.pointer (some ⟨mb,0,none⟩),.int .i64 y,p] W2.drew (MPost W2.drew mb O (deed n y sb))):=Aa (by first|exact hcall|simpa using hcall);go_still_tail 10,(by kernel_rfl);change wpList _ _ _ _ _ W2.drew;go_wp2_with fail
   refine HCALL.out.mono ?_;rintro e w3 ⟨rfl,⟨L3,hM3⟩,hF3⟩;clear HCALL hcall hlk hid2 i0 i1 c49 HI2;generalize deed n y sb=d at *;have hds:d.steps≤1000000000:=by rw[HDS.out.1,HSB.out];exact hst
   have hpk:=hM3.ok.peak;have hsl:=hM3.ok.slen;obtain⟨Ak,ck,hvk,_,_⟩:=hM3.sk.form;have c40:=hM3.blk.cell 40;rw[hM3.c.c40,hvk] at c40;have c45:=hM3.blk.cell 45;rw[hM3.c.c45] at c45;have c46:=hM3.blk.cell 46;rw[hM3.c.c46] at c46;have f45:=hM3.blk.frozen 45;have f46:=hM3.blk.frozen 46;have lmb3:=hM3.blk.lt;have h4:=hM3.set_ (hM3.c.setSteps (d.steps+1)) (hM3.ok.cells_ hM3.ok.store hM3.ok.stl hM3.ok.look hM3.ok.move hM3.ok.mode hM3.ok.peak);have hF4:=hF3.setCell (p:=⟨mb,45,none⟩) (.inl HM2.out.mbO) (.int .i64 ((d.steps+1:Nat):Int));have h5:=h4.set_ (h4.c.setPeak (max d.peak d.stack.length)) (h4.ok.cells_ h4.ok.store h4.ok.stl h4.ok.look h4.ok.move h4.ok.mode (by omega));have hF5:=hF4.setCell (p:=⟨mb,46,none⟩) (.inl HM2.out.mbO) (.int .i64 ((max d.peak d.stack.length:Nat):Int));have hcs:((d.steps+1:Nat):Int)=(d.steps:Int)+1:=by omega
   have hcm:((max d.peak d.stack.length:Nat):Int)=max (d.peak:Int) (d.stack.length:Int):=by omega
   rw[hcs] at h4 h5 hF4 hF5;rw[hcm] at h5 hF5;have HP:Hid (Lh w mb O s (.returned (.bool true)) ((((w3.setCell ⟨mb,45,none⟩ (.int .i64 ((d.steps:Int)+1))).setCell ⟨mb,46,none⟩ (.int .i64 (max (d.peak:Int) (d.stack.length:Int))))).drew)):=Aa (by
    have hz1:=HF2.out.size;have hz2:=hF3.size;unfold Lh;rw[HSS.out];refine⟨rfl,⟨_,h5.drew.mono (fun k hk=>?_) (fun k hk=>?_)⟩,HF2.out.drew.trans hF5.drew⟩
    ·rcases hk with hk|hk
     ·exact .inl hk
     ·refine .inr ⟨?_,?_⟩
      ·have:W2.drew.heap.size=W2.heap.size:=rfl;omega
      ·have:=hk.2;simpa [World.setCell] using this
    ·rcases hk with hk|hk
     ·exact h5.drew.olt k (.inl hk)
     ·exact hk.2)
   clear h4 h5 hF4 hF5 hcs hcm hvk hM3 hF3;generalize d.steps=dst at *;generalize d.peak=dpk at *;generalize d.stack.length=dsl at *;have hw5:IntKind.i64.wrap ((dst:Int)+1)=(dst:Int)+1:=by rw[IntWalk.i64_in _ (by omega)]
   go_wp2_with fail
   have c46':(w3.setCell ⟨mb,45,none⟩ (.int .i64 ((dst:Int)+1))).cell? ⟨mb,46,none⟩=some (.int .i64 dpk):=(World.cell?_setCell_other _ _ _ _ (fun e=>by injection e with e1 e2;omega)).trans c46;have c40':(w3.setCell ⟨mb,45,none⟩ (.int .i64 ((dst:Int)+1))).cell? ⟨mb,40,none⟩=some (.slice Ak dsl ck):=(World.cell?_setCell_other _ _ _ _ (fun e=>by injection e with e1 e2;omega)).trans c40;have f46':(w3.setCell ⟨mb,45,none⟩ (.int .i64 ((dst:Int)+1))).frozen? ⟨mb,46,none⟩=false:=by rw[World.frozen?_setCell];exact f46
   have lmb4:mb<(w3.setCell ⟨mb,45,none⟩ (.int .i64 ((dst:Int)+1))).heap.size:=by simpa [World.setCell] using lmb3
   clear c40 c45 c46 f45 f46 lmb3 hw5;generalize w3.setCell ⟨mb,45,none⟩ (.int .i64 ((dst:Int)+1))=W4 at *;by_cases hdl:(dpk:Int)<(dsl:Int)
   ·rw[show max (dpk:Int) (dsl:Int)=dsl by omega] at HP;go_region;go_wp2_with fail
    go_ret;exact HP.out
   ·rw[show max (dpk:Int) (dsl:Int)=dpk by omega] at HP;go_region;go_wp2_with fail
    go_ret;exact HP.out
theorem MaL.grow {w w':World} {mb:Nat} {O:Nat→Prop} {L:Lay} {s:St} (h:MaL w mb O L s) (hg:Grow w w'):MaL w' mb O L s :=
 h.keep (fun k hk=>hg.block k (h.olt k hk) (fun x=>x)) (fun _ h=>h) (fun k hk=>Nat.lt_of_lt_of_le (h.olt k hk) hg.size)
structure RanAt (B:Nat) (s:St) (W:World) (og cu to en cv st sk:Value):Prop where
 og:W.ownsRow B 76 2 og s.org.length (pts s.org)
 cu:W.ownsRow B 76 2 cu s.cur.length (pts s.cur)
 to:W.ownsRow B 3 1 to s.touch.length (ints s.touch)
 en:W.ownsRow B 3 1 en s.ends.length (ints s.ends)
 cv:W.ownsRow B 3 1 cv s.cvt.length (ints s.cvt)
 st:W.ownsRow B 3 1 st 32 (ints s.store)
 sk:W.ownsRow B 3 1 sk s.stack.length (ints s.stack.reverse)
theorem RanAt.grow {B:Nat} {s:St} {W W':World} {og cu to en cv st sk:Value} (h:RanAt B s W og cu to en cv st sk) (hg:Grow W W'):RanAt B s W' og cu to en cv st sk :=
 ⟨Bc h.og hg,Bc h.cu hg,Bc h.to hg,Bc h.en hg,Bc h.cv hg,Bc h.st hg,Bc h.sk hg⟩
theorem RanAt.set_ {B:Nat} {s:St} {W:World} {og cu to en cv st sk:Value} (h:RanAt B s W og cu to en cv st sk) {b:Nat} {cs:Array Value} (hb:Blk W b 39 cs) (i:Nat) (u:Value):RanAt B s (W.setCell ⟨b,i,none⟩ u) og cu to en cv st sk :=
 ⟨Be h.og hb (by decide) i u,Be h.cu hb (by decide) i u,Be h.to hb (by decide) i u,Be h.en hb (by decide) i u,Be h.cv hb (by decide) i u,Be h.st hb (by decide) i u,Be h.sk hb (by decide) i u⟩
def Hi (W:World) (b:Nat) (u0 u1 u2 u3 u4 u5 u6 u7 u8 u9:Value):World :=
 (((((((((W.setCell ⟨b,0,none⟩ u0).setCell ⟨b,1,none⟩ u1).setCell ⟨b,2,none⟩ u2).setCell ⟨b,3,none⟩ u3).setCell ⟨b,4,none⟩ u4).setCell ⟨b,5,none⟩ u5).setCell ⟨b,6,none⟩ u6).setCell ⟨b,7,none⟩ u7).setCell ⟨b,8,none⟩ u8).setCell ⟨b,9,none⟩ u9
theorem Eo {B:Nat} {s:St} {w W:World} {og cu to en cv st sk:Value} {b:Nat} {cs:Array Value} (hb:Blk W b 39 cs) (h:RanAt B s W og cu to en cv st sk) (hB:B≤b) (hbl:Below B w W) (u0 u1 u2 u3 u4 u5 u6 u7 u8 u9:Value) :
  RanAt B s (Hi W b u0 u1 u2 u3 u4 u5 u6 u7 u8 u9) og cu to en cv st sk∧Below B w (Hi W b u0 u1 u2 u3 u4 u5 u6 u7 u8 u9)∧Blk (Hi W b u0 u1 u2 u3 u4 u5 u6 u7 u8 u9) b 39 ((((((((((cs.setIfInBounds 0 u0).setIfInBounds 1 u1).setIfInBounds 2 u2).setIfInBounds 3 u3).setIfInBounds 4 u4).setIfInBounds 5 u5).setIfInBounds 6 u6).setIfInBounds 7 u7).setIfInBounds 8 u8).setIfInBounds 9 u9):=by
 have step:∀ {W:World} {cs:Array Value} (i:Nat) (u:Value),(RanAt B s W og cu to en cv st sk∧Below B w W∧Blk W b 39 cs)→RanAt B s (W.setCell ⟨b,i,none⟩ u) og cu to en cv st sk∧Below B w (W.setCell ⟨b,i,none⟩ u)∧Blk (W.setCell ⟨b,i,none⟩ u) b 39 (cs.setIfInBounds i u) :=
  fun i u hh=>⟨hh.1.set_ hh.2.2 i u,hh.2.1.setCell (p:=⟨b,i,none⟩) hB u,hh.2.2.set_ i u⟩
 exact step 9 u9 (step 8 u8 (step 7 u7 (step 6 u6 (step 5 u5 (step 4 u4 (step 3 u3 (step 2 u2 (step 1 u1 (step 0 u0 ⟨h,hbl,hb⟩)))))))))
def Qf (w:World) (s:St) (e:Ending) (w':World):Prop :=
 ∃ og cu to en cv st sk,e=.returned (.agg #[og,cu,to,en,cv,st,sk,.int .i64 s.steps,.int .i64 s.peak,.int .i64 s.err])∧RanAt w.heap.size s w' og cu to en cv st sk∧Below w.heap.size w w'
def RaV (mb B:Nat) (L:Lay) (s:St) (i:Nat) (v:Value) (W:World):Prop :=
 match i with
 | 0=>v=.pointer (some ⟨mb,0,none⟩)
 | 1=>v=.pointer (some ⟨mb,0,none⟩)
 | 2=>v=.pointer (some ⟨mb,2,none⟩)
 | 3=>v=.pointer (some ⟨mb,2,none⟩)
 | 4=>v=L.og
 | 5=>W.ownsRow B 76 2 v s.org.length (pts s.org)
 | 6=>v=.pointer (some ⟨mb,0,none⟩)
 | 7=>v=.pointer (some ⟨mb,0,none⟩)
 | 8=>v=.pointer (some ⟨mb,2,none⟩)
 | 9=>v=.pointer (some ⟨mb,3,none⟩)
 | 10=>v=L.cu
 | 11=>W.ownsRow B 76 2 v s.cur.length (pts s.cur)
 | 12=>v=.pointer (some ⟨mb,0,none⟩)
 | 13=>v=.pointer (some ⟨mb,0,none⟩)
 | 14=>v=.pointer (some ⟨mb,2,none⟩)
 | 15=>v=.pointer (some ⟨mb,4,none⟩)
 | 16=>v=L.to
 | 17=>W.ownsRow B 3 1 v s.touch.length (ints s.touch)
 | 18=>v=.pointer (some ⟨mb,0,none⟩)
 | 19=>v=.pointer (some ⟨mb,0,none⟩)
 | 20=>v=.pointer (some ⟨mb,2,none⟩)
 | 21=>v=.pointer (some ⟨mb,5,none⟩)
 | 22=>v=L.en
 | 23=>W.ownsRow B 3 1 v s.ends.length (ints s.ends)
 | 24=>∃ og cu to en,v=.agg #[og,cu,to,en]∧W.ownsRow B 76 2 og s.org.length (pts s.org)∧W.ownsRow B 76 2 cu s.cur.length (pts s.cur)∧W.ownsRow B 3 1 to s.touch.length (ints s.touch)∧W.ownsRow B 3 1 en s.ends.length (ints s.ends)
 | 25=>v=.pointer (some ⟨mb,0,none⟩)
 | 26=>v=.pointer (some ⟨mb,0,none⟩)
 | 27=>v=.pointer (some ⟨mb,7,none⟩)
 | 28=>v=L.cv
 | 29=>W.ownsRow B 3 1 v s.cvt.length (ints s.cvt)
 | 30=>v=.pointer (some ⟨mb,0,none⟩)
 | 31=>v=.pointer (some ⟨mb,0,none⟩)
 | 32=>v=.pointer (some ⟨mb,8,none⟩)
 | 33=>v=.slice (some ⟨mb,8,none⟩) 32 32
 | 34=>W.ownsRow B 3 1 v 32 (ints s.store)
 | 35=>v=.pointer (some ⟨mb,0,none⟩)
 | 36=>v=.pointer (some ⟨mb,0,none⟩)
 | 37=>v=.pointer (some ⟨mb,40,none⟩)
 | 38=>v=L.sk
 | 39=>W.ownsRow B 3 1 v s.stack.length (ints s.stack.reverse)
 | 40=>v=.pointer (some ⟨mb,0,none⟩)
 | 41=>v=.pointer (some ⟨mb,0,none⟩)
 | 42=>v=.pointer (some ⟨mb,45,none⟩)
 | 43=>v=.int .i64 s.steps
 | 44=>v=.pointer (some ⟨mb,0,none⟩)
 | 45=>v=.pointer (some ⟨mb,0,none⟩)
 | 46=>v=.pointer (some ⟨mb,46,none⟩)
 | 47=>v=.int .i64 s.peak
 | 48=>v=.pointer (some ⟨mb,0,none⟩)
 | 49=>v=.pointer (some ⟨mb,0,none⟩)
 | 50=>v=.pointer (some ⟨mb,48,none⟩)
 | 51=>v=.int .i64 s.err
 | 52=>∃ og cu to en cv st sk,v=.agg #[og,cu,to,en,cv,st,sk,.int .i64 s.steps,.int .i64 s.peak,.int .i64 s.err]∧RanAt B s W og cu to en cv st sk
 | _=>True
theorem RaV.grow {mb B:Nat} {L:Lay} {s:St} {i:Nat} {v:Value} {W W':World} (h:RaV mb B L s i v W) (hg:Grow W W'):RaV mb B L s i v W':=by
 match i with
 | 0|1|2|3|4|6|7|8|9|10|12|13|14|15|16|18|19|20|21|22|25|26|27|28|30|31|32|33|35|36|37|38|40|41|42|43|44|45|46|47|48|49|50|51=>exact h
 | 5|11|17|23|29|34|39=>exact Bc h hg
 | 24=>obtain⟨og,cu,to,en,e,h1,h2,h3,h4⟩:=h;exact⟨og,cu,to,en,e,Bc h1 hg,Bc h2 hg,Bc h3 hg,Bc h4 hg⟩
 | 52=>obtain⟨og,cu,to,en,cv,st,sk,e,h1⟩:=h;exact⟨og,cu,to,en,cv,st,sk,e,h1.grow hg⟩
 | i+53=>trivial
structure RanAp (og cu to en cv st sk:Value):Prop where
 p1:Apart og cu
 p2:Apart to en
 p3:Apart to cv
 p4:Apart to st
 p5:Apart to sk
 p6:Apart en cv
 p7:Apart en st
 p8:Apart en sk
 p9:Apart cv st
 p10:Apart cv sk
 p11:Apart st sk
def RaD (i:Nat) (v:Value) (j:Nat) (u:Value):Prop :=
 match i with
 | 5=>match j with|11|17|23|29|34|39=>Apart v u|24=>False|_=>True
 | 11=>match j with|5|17|23|29|34|39=>Apart v u|24=>False|_=>True
 | 17=>match j with|5|11|23|29|34|39=>Apart v u|24=>False|_=>True
 | 23=>match j with|5|11|17|29|34|39=>Apart v u|24=>False|_=>True
 | 29=>match j with|5|11|17|23|34|39=>Apart v u|52=>False|_=>True
 | 34=>match j with|5|11|17|23|29|39=>Apart v u|52=>False|_=>True
 | 39=>match j with|5|11|17|23|29|34=>Apart v u|52=>False|_=>True
 | 24=>match j with
  | 5=>∃ b c d,v=.agg #[u,b,c,d]
  | 11=>∃ a c d,v=.agg #[a,u,c,d]
  | 17=>∃ a b d,v=.agg #[a,b,u,d]
  | 23=>∃ a b c,v=.agg #[a,b,c,u]
  | 52=>False
  | _=>True
 | 52=>match j with
  | 24=>∃ og cu to en cv st sk a b c,v=.agg #[og,cu,to,en,cv,st,sk,a,b,c]∧u=.agg #[og,cu,to,en]
  | 29=>∃ og cu to en st sk a b c,v=.agg #[og,cu,to,en,u,st,sk,a,b,c]
  | 34=>∃ og cu to en cv sk a b c,v=.agg #[og,cu,to,en,cv,u,sk,a,b,c]
  | 39=>∃ og cu to en cv st a b c,v=.agg #[og,cu,to,en,cv,st,u,a,b,c]
  | _=>True
 | _=>True
def Zbq (w:World) (s:St) (e:Ending) (w':World):Prop :=
 ∃ og cu to en cv st sk,e=.returned (.agg #[og,cu,to,en,cv,st,sk,.int .i64 s.steps,.int .i64 s.peak,.int .i64 s.err])∧RanAt w.heap.size s w' og cu to en cv st sk∧Below w.heap.size w w'∧RanAp og cu to en cv st sk
theorem Qt (w:World) (mb:Nat) (O:Nat→Prop) (L:Lay) (s:St) (h:MaL w mb O L s) :
  Calls Tryz.prog 71 #[.pointer (some ⟨mb,0,none⟩)] w (Zbq w s):=by
 have hmbl:=h.blk.lt;have HX:=Aa (h.alloc (.cells #[.slice none 0 0,.slice none 0 0,.slice none 0 0,.slice none 0 0,.slice none 0 0,.slice none 0 0,.slice none 0 0,.int .i64 0,.int .i64 0,.int .i64 0] 39));have HB:=Aa (Blk.new w 39 #[.slice none 0 0,.slice none 0 0,.slice none 0 0,.slice none 0 0,.slice none 0 0,.slice none 0 0,.slice none 0 0,.int .i64 0,.int .i64 0,.int .i64 0]);have HW:=Aa ((Below.refl w.heap.size w).alloc Ad (.cells #[.slice none 0 0,.slice none 0 0,.slice none 0 0,.slice none 0 0,.slice none 0 0,.slice none 0 0,.slice none 0 0,.int .i64 0,.int .i64 0,.int .i64 0] 39));clear h;go_enter Tryz.func71,Tryz.ntmps71;go_wp2_with fail
 generalize w.alloc (.cells #[.slice none 0 0,.slice none 0 0,.slice none 0 0,.slice none 0 0,.slice none 0 0,.slice none 0 0,.slice none 0 0,.int .i64 0,.int .i64 0,.int .i64 0] 39)=X at *;have hwX:=HW.out.size;refine Fg (RaV mb w.heap.size L s) RaD (fun W=>Grow X W) Grow (by as_aux_lemma=>kernel_rfl) (by as_aux_lemma=>kernel_rfl) 53 rfl ?_ ?_ ?_ ?_
 ·intro i v W W' hv hr;exact hv.grow hr
 ·exact(Fr.refl _ _).drew
 ·intro j ev val W T hj hG hev hVT hTD hd;have HVT:=Aa hVT;have HTD:=Aa hTD;have _e0:ev (.tmp 0)=.pointer (some ⟨mb,0,none⟩):=hev.other 0 (by kernel_rfl);have _ec:=hev.const;have _ef:=hev.func;have hM:=HX.out.grow hG;have HM:=Aa hM;have HGG:=Aa hG;have lmb:=hM.blk.lt;have hzW:=hG.size;clear hG hM hVT hTD
  match j,hj with
  | 0,_ =>
   refine⟨_,rfl,rfl,?_⟩;unfold Ar;go_simp;exact⟨rfl,HGG.out,Fr.refl _ _,fun _ _=>trivial⟩
  | 1,_ =>
   have d0:=hd 0 (by kernel_rfl);have x0:=hev.dep 0 6 (by kernel_rfl) (by kernel_rfl);simp only[RaV] at d0;rw[d0] at x0;refine⟨_,rfl,rfl,?_⟩;unfold Ar;go_simp;exact⟨rfl,HGG.out,Fr.refl _ _,fun _ _=>trivial⟩
  | 2,_ =>
   have d1:=hd 1 (by kernel_rfl);have x1:=hev.dep 1 7 (by kernel_rfl) (by kernel_rfl);simp only[RaV] at d1;rw[d1] at x1;refine⟨_,rfl,rfl,?_⟩;unfold Ar;go_simp;exact⟨rfl,HGG.out,Fr.refl _ _,fun _ _=>trivial⟩
  | 3,_ =>
   have d2:=hd 2 (by kernel_rfl);have x2:=hev.dep 2 8 (by kernel_rfl) (by kernel_rfl);simp only[RaV] at d2;rw[d2] at x2;refine⟨_,rfl,rfl,?_⟩;unfold Ar;go_simp;exact⟨rfl,HGG.out,Fr.refl _ _,fun _ _=>trivial⟩
  | 4,_ =>
   have d3:=hd 3 (by kernel_rfl);have x3:=hev.dep 3 9 (by kernel_rfl) (by kernel_rfl);simp only[RaV] at d3;rw[d3] at x3;have c0:=HM.out.blk.cell 2;rw[HM.out.c.c2] at c0;refine⟨_,rfl,rfl,?_⟩;unfold Ar;go_simp;exact⟨rfl,HGG.out,Fr.refl _ _,fun _ _=>trivial⟩
  | 5,_ =>
   have d4:=hd 4 (by kernel_rfl);have x4:=hev.dep 4 10 (by kernel_rfl) (by kernel_rfl);simp only[RaV] at d4;rw[d4] at x4;obtain⟨A,c,hv,_,_⟩:=HM.out.og.form;have ho:=HM.out.og.1;rw[hv] at x4 ho;have hre:=Reads.of_own ho;have HRE:=Aa hre;have hbd:s.org.length≤1000000:=by have:=HM.out.ok.curl;have:=HM.out.ok.orgl;have:=HM.out.ok.tl;have:=HM.out.ok.cvl;have:=HM.out.ok.endl;have:=HM.out.ok.slen;omega
   clear hv ho hre;refine⟨_,rfl,rfl,?_⟩;unfold Ar;go_simp;refine(Rs W A _ c _ _ HRE.out (Lq _) (by omega)).mono ?_;rintro e w5 ⟨v5,rfl,ho5,hg5⟩;refine⟨_,rfl,Bj ho5 (by omega),HGG.out.trans hg5,hg5,fun j hj=>?_⟩;have hvj:=HVT.out j hj;have hdj:=HTD.out j hj
   match j with
   | 11|17|23|29|34|39=>exact Cn (by simpa only[RaV] using hvj) ho5
   | 24=>exact absurd (hdj.symm.trans (by kernel_rfl)) Bool.false_ne_true
   | 0|1|2|3|4|5|6|7|8|9|10|12|13|14|15|16|18|19|20|21|22|25|26|27|28|30|31|32|33|35|36|37|38|40|41|42|43|44|45|46|47|48|49|50|51|52=>trivial
   | j+53=>trivial
  | 6,_ =>
   refine⟨_,rfl,rfl,?_⟩;unfold Ar;go_simp;exact⟨rfl,HGG.out,Fr.refl _ _,fun _ _=>trivial⟩
  | 7,_ =>
   have d6:=hd 6 (by kernel_rfl);have x6:=hev.dep 6 12 (by kernel_rfl) (by kernel_rfl);simp only[RaV] at d6;rw[d6] at x6;refine⟨_,rfl,rfl,?_⟩;unfold Ar;go_simp;exact⟨rfl,HGG.out,Fr.refl _ _,fun _ _=>trivial⟩
  | 8,_ =>
   have d7:=hd 7 (by kernel_rfl);have x7:=hev.dep 7 13 (by kernel_rfl) (by kernel_rfl);simp only[RaV] at d7;rw[d7] at x7;refine⟨_,rfl,rfl,?_⟩;unfold Ar;go_simp;exact⟨rfl,HGG.out,Fr.refl _ _,fun _ _=>trivial⟩
  | 9,_ =>
   have d8:=hd 8 (by kernel_rfl);have x8:=hev.dep 8 14 (by kernel_rfl) (by kernel_rfl);simp only[RaV] at d8;rw[d8] at x8;refine⟨_,rfl,rfl,?_⟩;unfold Ar;go_simp;exact⟨rfl,HGG.out,Fr.refl _ _,fun _ _=>trivial⟩
  | 10,_ =>
   have d9:=hd 9 (by kernel_rfl);have x9:=hev.dep 9 15 (by kernel_rfl) (by kernel_rfl);simp only[RaV] at d9;rw[d9] at x9;have c0:=HM.out.blk.cell 3;rw[HM.out.c.c3] at c0;refine⟨_,rfl,rfl,?_⟩;unfold Ar;go_simp;exact⟨rfl,HGG.out,Fr.refl _ _,fun _ _=>trivial⟩
  | 11,_ =>
   have d10:=hd 10 (by kernel_rfl);have x10:=hev.dep 10 16 (by kernel_rfl) (by kernel_rfl);simp only[RaV] at d10;rw[d10] at x10;obtain⟨A,c,hv,_,_⟩:=HM.out.cu.form;have ho:=HM.out.cu.1;rw[hv] at x10 ho;have hre:=Reads.of_own ho;have HRE:=Aa hre;have hbd:s.cur.length≤1000000:=by have:=HM.out.ok.curl;have:=HM.out.ok.orgl;have:=HM.out.ok.tl;have:=HM.out.ok.cvl;have:=HM.out.ok.endl;have:=HM.out.ok.slen;omega
   clear hv ho hre;refine⟨_,rfl,rfl,?_⟩;unfold Ar;go_simp;refine(Rs W A _ c _ _ HRE.out (Lq _) (by omega)).mono ?_;rintro e w5 ⟨v5,rfl,ho5,hg5⟩;refine⟨_,rfl,Bj ho5 (by omega),HGG.out.trans hg5,hg5,fun j hj=>?_⟩;have hvj:=HVT.out j hj;have hdj:=HTD.out j hj
   match j with
   | 5|17|23|29|34|39=>exact Cn (by simpa only[RaV] using hvj) ho5
   | 24=>exact absurd (hdj.symm.trans (by kernel_rfl)) Bool.false_ne_true
   | 0|1|2|3|4|6|7|8|9|10|11|12|13|14|15|16|18|19|20|21|22|25|26|27|28|30|31|32|33|35|36|37|38|40|41|42|43|44|45|46|47|48|49|50|51|52=>trivial
   | j+53=>trivial
  | 12,_ =>
   refine⟨_,rfl,rfl,?_⟩;unfold Ar;go_simp;exact⟨rfl,HGG.out,Fr.refl _ _,fun _ _=>trivial⟩
  | 13,_ =>
   have d12:=hd 12 (by kernel_rfl);have x12:=hev.dep 12 18 (by kernel_rfl) (by kernel_rfl);simp only[RaV] at d12;rw[d12] at x12;refine⟨_,rfl,rfl,?_⟩;unfold Ar;go_simp;exact⟨rfl,HGG.out,Fr.refl _ _,fun _ _=>trivial⟩
  | 14,_ =>
   have d13:=hd 13 (by kernel_rfl);have x13:=hev.dep 13 19 (by kernel_rfl) (by kernel_rfl);simp only[RaV] at d13;rw[d13] at x13;refine⟨_,rfl,rfl,?_⟩;unfold Ar;go_simp;exact⟨rfl,HGG.out,Fr.refl _ _,fun _ _=>trivial⟩
  | 15,_ =>
   have d14:=hd 14 (by kernel_rfl);have x14:=hev.dep 14 20 (by kernel_rfl) (by kernel_rfl);simp only[RaV] at d14;rw[d14] at x14;refine⟨_,rfl,rfl,?_⟩;unfold Ar;go_simp;exact⟨rfl,HGG.out,Fr.refl _ _,fun _ _=>trivial⟩
  | 16,_ =>
   have d15:=hd 15 (by kernel_rfl);have x15:=hev.dep 15 21 (by kernel_rfl) (by kernel_rfl);simp only[RaV] at d15;rw[d15] at x15;have c0:=HM.out.blk.cell 4;rw[HM.out.c.c4] at c0;refine⟨_,rfl,rfl,?_⟩;unfold Ar;go_simp;exact⟨rfl,HGG.out,Fr.refl _ _,fun _ _=>trivial⟩
  | 17,_ =>
   have d16:=hd 16 (by kernel_rfl);have x16:=hev.dep 16 22 (by kernel_rfl) (by kernel_rfl);simp only[RaV] at d16;rw[d16] at x16;obtain⟨A,c,hv,_,_⟩:=HM.out.to.form;have ho:=HM.out.to.1;rw[hv] at x16 ho;have hre:=Reads.of_own ho;have HRE:=Aa hre;have hbd:s.touch.length≤1000000:=by have:=HM.out.ok.curl;have:=HM.out.ok.orgl;have:=HM.out.ok.tl;have:=HM.out.ok.cvl;have:=HM.out.ok.endl;have:=HM.out.ok.slen;omega
   clear hv ho hre;refine⟨_,rfl,rfl,?_⟩;unfold Ar;go_simp;refine(Ec W A _ c _ _ HRE.out (Ez _) (by omega)).mono ?_;rintro e w5 ⟨v5,rfl,ho5,hg5⟩;refine⟨_,rfl,Bj ho5 (by omega),HGG.out.trans hg5,hg5,fun j hj=>?_⟩;have hvj:=HVT.out j hj;have hdj:=HTD.out j hj
   match j with
   | 5|11|23|29|34|39=>exact Cn (by simpa only[RaV] using hvj) ho5
   | 24=>exact absurd (hdj.symm.trans (by kernel_rfl)) Bool.false_ne_true
   | 0|1|2|3|4|6|7|8|9|10|12|13|14|15|16|17|18|19|20|21|22|25|26|27|28|30|31|32|33|35|36|37|38|40|41|42|43|44|45|46|47|48|49|50|51|52=>trivial
   | j+53=>trivial
  | 18,_ =>
   refine⟨_,rfl,rfl,?_⟩;unfold Ar;go_simp;exact⟨rfl,HGG.out,Fr.refl _ _,fun _ _=>trivial⟩
  | 19,_ =>
   have d18:=hd 18 (by kernel_rfl);have x18:=hev.dep 18 24 (by kernel_rfl) (by kernel_rfl);simp only[RaV] at d18;rw[d18] at x18;refine⟨_,rfl,rfl,?_⟩;unfold Ar;go_simp;exact⟨rfl,HGG.out,Fr.refl _ _,fun _ _=>trivial⟩
  | 20,_ =>
   have d19:=hd 19 (by kernel_rfl);have x19:=hev.dep 19 25 (by kernel_rfl) (by kernel_rfl);simp only[RaV] at d19;rw[d19] at x19;refine⟨_,rfl,rfl,?_⟩;unfold Ar;go_simp;exact⟨rfl,HGG.out,Fr.refl _ _,fun _ _=>trivial⟩
  | 21,_ =>
   have d20:=hd 20 (by kernel_rfl);have x20:=hev.dep 20 26 (by kernel_rfl) (by kernel_rfl);simp only[RaV] at d20;rw[d20] at x20;refine⟨_,rfl,rfl,?_⟩;unfold Ar;go_simp;exact⟨rfl,HGG.out,Fr.refl _ _,fun _ _=>trivial⟩
  | 22,_ =>
   have d21:=hd 21 (by kernel_rfl);have x21:=hev.dep 21 27 (by kernel_rfl) (by kernel_rfl);simp only[RaV] at d21;rw[d21] at x21;have c0:=HM.out.blk.cell 5;rw[HM.out.c.c5] at c0;refine⟨_,rfl,rfl,?_⟩;unfold Ar;go_simp;exact⟨rfl,HGG.out,Fr.refl _ _,fun _ _=>trivial⟩
  | 23,_ =>
   have d22:=hd 22 (by kernel_rfl);have x22:=hev.dep 22 28 (by kernel_rfl) (by kernel_rfl);simp only[RaV] at d22;rw[d22] at x22;obtain⟨A,c,hv,_,_⟩:=HM.out.en.form;have ho:=HM.out.en.1;rw[hv] at x22 ho;have hre:=Reads.of_own ho;have HRE:=Aa hre;have hbd:s.ends.length≤1000000:=by have:=HM.out.ok.curl;have:=HM.out.ok.orgl;have:=HM.out.ok.tl;have:=HM.out.ok.cvl;have:=HM.out.ok.endl;have:=HM.out.ok.slen;omega
   clear hv ho hre;refine⟨_,rfl,rfl,?_⟩;unfold Ar;go_simp;refine(Ec W A _ c _ _ HRE.out (Ez _) (by omega)).mono ?_;rintro e w5 ⟨v5,rfl,ho5,hg5⟩;refine⟨_,rfl,Bj ho5 (by omega),HGG.out.trans hg5,hg5,fun j hj=>?_⟩;have hvj:=HVT.out j hj;have hdj:=HTD.out j hj
   match j with
   | 5|11|17|29|34|39=>exact Cn (by simpa only[RaV] using hvj) ho5
   | 24=>exact absurd (hdj.symm.trans (by kernel_rfl)) Bool.false_ne_true
   | 0|1|2|3|4|6|7|8|9|10|12|13|14|15|16|18|19|20|21|22|23|25|26|27|28|30|31|32|33|35|36|37|38|40|41|42|43|44|45|46|47|48|49|50|51|52=>trivial
   | j+53=>trivial
  | 24,_ =>
   have d5:=hd 5 (by kernel_rfl);have x5:=hev.dep 5 11 (by kernel_rfl) (by kernel_rfl);simp only[RaV] at d5;have d11:=hd 11 (by kernel_rfl);have x11:=hev.dep 11 17 (by kernel_rfl) (by kernel_rfl);simp only[RaV] at d11;have d17:=hd 17 (by kernel_rfl);have x17:=hev.dep 17 23 (by kernel_rfl) (by kernel_rfl);simp only[RaV] at d17;have d23:=hd 23 (by kernel_rfl);have x23:=hev.dep 23 29 (by kernel_rfl) (by kernel_rfl);simp only[RaV] at d23;obtain⟨A1,c1,hv1⟩:∃ A c,val 5=.slice A _ c:=by obtain⟨A,c,e,_⟩:=Ae d5;exact⟨A,c,e⟩
   rw[hv1] at x5 d5;obtain⟨A2,c2,hv2⟩:∃ A c,val 11=.slice A _ c:=by obtain⟨A,c,e,_⟩:=Ae d11;exact⟨A,c,e⟩
   rw[hv2] at x11 d11;obtain⟨A3,c3,hv3⟩:∃ A c,val 17=.slice A _ c:=by obtain⟨A,c,e,_⟩:=Ae d17;exact⟨A,c,e⟩
   rw[hv3] at x17 d17;obtain⟨A4,c4,hv4⟩:∃ A c,val 23=.slice A _ c:=by obtain⟨A,c,e,_⟩:=Ae d23;exact⟨A,c,e⟩
   rw[hv4] at x23 d23;have H1:=Aa d5;have H2:=Aa d11;have H3:=Aa d17;have H4:=Aa d23;clear d5 d11 d17 d23;refine⟨_,rfl,rfl,?_⟩;unfold Ar;go_simp;refine⟨⟨_,_,_,_,rfl,H1.out,H2.out,H3.out,H4.out⟩,HGG.out,Fr.refl _ _,fun j hj=>?_⟩;have hdj:=HTD.out j hj
   match j with
   | 5=>exact⟨_,_,_,by rw[hv1]⟩
   | 11=>exact⟨_,_,_,by rw[hv2]⟩
   | 17=>exact⟨_,_,_,by rw[hv3]⟩
   | 23=>exact⟨_,_,_,by rw[hv4]⟩
   | 52=>exact absurd (hdj.symm.trans (by kernel_rfl)) Bool.false_ne_true
   | 0|1|2|3|4|6|7|8|9|10|12|13|14|15|16|18|19|20|21|22|24|25|26|27|28|29|30|31|32|33|34|35|36|37|38|39|40|41|42|43|44|45|46|47|48|49|50|51=>trivial
   | j+53=>trivial
  | 25,_ =>
   refine⟨_,rfl,rfl,?_⟩;unfold Ar;go_simp;exact⟨rfl,HGG.out,Fr.refl _ _,fun _ _=>trivial⟩
  | 26,_ =>
   have d25:=hd 25 (by kernel_rfl);have x25:=hev.dep 25 31 (by kernel_rfl) (by kernel_rfl);simp only[RaV] at d25;rw[d25] at x25;refine⟨_,rfl,rfl,?_⟩;unfold Ar;go_simp;exact⟨rfl,HGG.out,Fr.refl _ _,fun _ _=>trivial⟩
  | 27,_ =>
   have d26:=hd 26 (by kernel_rfl);have x26:=hev.dep 26 32 (by kernel_rfl) (by kernel_rfl);simp only[RaV] at d26;rw[d26] at x26;refine⟨_,rfl,rfl,?_⟩;unfold Ar;go_simp;exact⟨rfl,HGG.out,Fr.refl _ _,fun _ _=>trivial⟩
  | 28,_ =>
   have d27:=hd 27 (by kernel_rfl);have x27:=hev.dep 27 33 (by kernel_rfl) (by kernel_rfl);simp only[RaV] at d27;rw[d27] at x27;have c0:=HM.out.blk.cell 7;rw[HM.out.c.c7] at c0;refine⟨_,rfl,rfl,?_⟩;unfold Ar;go_simp;exact⟨rfl,HGG.out,Fr.refl _ _,fun _ _=>trivial⟩
  | 29,_ =>
   have d28:=hd 28 (by kernel_rfl);have x28:=hev.dep 28 34 (by kernel_rfl) (by kernel_rfl);simp only[RaV] at d28;rw[d28] at x28;obtain⟨A,c,hv,_,_⟩:=HM.out.cv.form;have ho:=HM.out.cv.1;rw[hv] at x28 ho;have hre:=Reads.of_own ho;have HRE:=Aa hre;have hbd:s.cvt.length≤1000000:=by have:=HM.out.ok.curl;have:=HM.out.ok.orgl;have:=HM.out.ok.tl;have:=HM.out.ok.cvl;have:=HM.out.ok.endl;have:=HM.out.ok.slen;omega
   clear hv ho hre;refine⟨_,rfl,rfl,?_⟩;unfold Ar;go_simp;refine(Ec W A _ c _ _ HRE.out (Ez _) (by omega)).mono ?_;rintro e w5 ⟨v5,rfl,ho5,hg5⟩;refine⟨_,rfl,Bj ho5 (by omega),HGG.out.trans hg5,hg5,fun j hj=>?_⟩;have hvj:=HVT.out j hj;have hdj:=HTD.out j hj
   match j with
   | 5|11|17|23|34|39=>exact Cn (by simpa only[RaV] using hvj) ho5
   | 52=>exact absurd (hdj.symm.trans (by kernel_rfl)) Bool.false_ne_true
   | 0|1|2|3|4|6|7|8|9|10|12|13|14|15|16|18|19|20|21|22|24|25|26|27|28|29|30|31|32|33|35|36|37|38|40|41|42|43|44|45|46|47|48|49|50|51=>trivial
   | j+53=>trivial
  | 30,_ =>
   refine⟨_,rfl,rfl,?_⟩;unfold Ar;go_simp;exact⟨rfl,HGG.out,Fr.refl _ _,fun _ _=>trivial⟩
  | 31,_ =>
   have d30:=hd 30 (by kernel_rfl);have x30:=hev.dep 30 36 (by kernel_rfl) (by kernel_rfl);simp only[RaV] at d30;rw[d30] at x30;refine⟨_,rfl,rfl,?_⟩;unfold Ar;go_simp;exact⟨rfl,HGG.out,Fr.refl _ _,fun _ _=>trivial⟩
  | 32,_ =>
   have d31:=hd 31 (by kernel_rfl);have x31:=hev.dep 31 37 (by kernel_rfl) (by kernel_rfl);simp only[RaV] at d31;rw[d31] at x31;refine⟨_,rfl,rfl,?_⟩;unfold Ar;go_simp;exact⟨rfl,HGG.out,Fr.refl _ _,fun _ _=>trivial⟩
  | 33,_ =>
   have d32:=hd 32 (by kernel_rfl);have x32:=hev.dep 32 38 (by kernel_rfl) (by kernel_rfl);simp only[RaV] at d32;rw[d32] at x32;refine⟨_,rfl,rfl,?_⟩;unfold Ar;go_simp;exact⟨rfl,HGG.out,Fr.refl _ _,fun _ _=>trivial⟩
  | 34,_ =>
   have d33:=hd 33 (by kernel_rfl);have x33:=hev.dep 33 39 (by kernel_rfl) (by kernel_rfl);simp only[RaV] at d33;rw[d33] at x33;have hre:Reads W W.heap.size 1 (some ⟨mb,8,none⟩) 32 (ints s.store):=⟨by rw[Bw,HM.out.ok.stl],fun _=>⟨mb,8,rfl,lmb,fun j u hu=>by
    rw[HM.out.blk.cell];simp only[ints,List.getElem?_map] at hu;cases hj:s.store[j]? with
    | none=>rw[hj] at hu;cases hu
    | some x =>
     rw[hj] at hu;simp only[Option.map_some,Option.some.injEq] at hu;subst hu;exact HM.out.c.st j x hj⟩⟩
   have HRE:=Aa hre;clear hre;refine⟨_,rfl,rfl,?_⟩;unfold Ar;go_simp;refine(Ec W _ _ _ _ _ HRE.out (Ez _) (by omega)).mono ?_;rintro e w5 ⟨v5,rfl,ho5,hg5⟩;refine⟨_,rfl,Bj ho5 (by omega),HGG.out.trans hg5,hg5,fun j hj=>?_⟩;have hvj:=HVT.out j hj;have hdj:=HTD.out j hj
   match j with
   | 5|11|17|23|29|39=>exact Cn (by simpa only[RaV] using hvj) ho5
   | 52=>exact absurd (hdj.symm.trans (by kernel_rfl)) Bool.false_ne_true
   | 0|1|2|3|4|6|7|8|9|10|12|13|14|15|16|18|19|20|21|22|24|25|26|27|28|30|31|32|33|34|35|36|37|38|40|41|42|43|44|45|46|47|48|49|50|51=>trivial
   | j+53=>trivial
  | 35,_ =>
   refine⟨_,rfl,rfl,?_⟩;unfold Ar;go_simp;exact⟨rfl,HGG.out,Fr.refl _ _,fun _ _=>trivial⟩
  | 36,_ =>
   have d35:=hd 35 (by kernel_rfl);have x35:=hev.dep 35 41 (by kernel_rfl) (by kernel_rfl);simp only[RaV] at d35;rw[d35] at x35;refine⟨_,rfl,rfl,?_⟩;unfold Ar;go_simp;exact⟨rfl,HGG.out,Fr.refl _ _,fun _ _=>trivial⟩
  | 37,_ =>
   have d36:=hd 36 (by kernel_rfl);have x36:=hev.dep 36 42 (by kernel_rfl) (by kernel_rfl);simp only[RaV] at d36;rw[d36] at x36;refine⟨_,rfl,rfl,?_⟩;unfold Ar;go_simp;exact⟨rfl,HGG.out,Fr.refl _ _,fun _ _=>trivial⟩
  | 38,_ =>
   have d37:=hd 37 (by kernel_rfl);have x37:=hev.dep 37 43 (by kernel_rfl) (by kernel_rfl);simp only[RaV] at d37;rw[d37] at x37;have c0:=HM.out.blk.cell 40;rw[HM.out.c.c40] at c0;refine⟨_,rfl,rfl,?_⟩;unfold Ar;go_simp;exact⟨rfl,HGG.out,Fr.refl _ _,fun _ _=>trivial⟩
  | 39,_ =>
   have d38:=hd 38 (by kernel_rfl);have x38:=hev.dep 38 44 (by kernel_rfl) (by kernel_rfl);simp only[RaV] at d38;rw[d38] at x38;obtain⟨A,c,hv,_,_⟩:=HM.out.sk.form;have ho:=HM.out.sk.1;rw[hv] at x38 ho;have hre:=Reads.of_own ho;have HRE:=Aa hre;have hbd:s.stack.length≤1000000:=by have:=HM.out.ok.curl;have:=HM.out.ok.orgl;have:=HM.out.ok.tl;have:=HM.out.ok.cvl;have:=HM.out.ok.endl;have:=HM.out.ok.slen;omega
   clear hv ho hre;refine⟨_,rfl,rfl,?_⟩;unfold Ar;go_simp;refine(Ec W A _ c _ _ HRE.out (Ez _) (by omega)).mono ?_;rintro e w5 ⟨v5,rfl,ho5,hg5⟩;refine⟨_,rfl,Bj ho5 (by omega),HGG.out.trans hg5,hg5,fun j hj=>?_⟩;have hvj:=HVT.out j hj;have hdj:=HTD.out j hj
   match j with
   | 5|11|17|23|29|34=>exact Cn (by simpa only[RaV] using hvj) ho5
   | 52=>exact absurd (hdj.symm.trans (by kernel_rfl)) Bool.false_ne_true
   | 0|1|2|3|4|6|7|8|9|10|12|13|14|15|16|18|19|20|21|22|24|25|26|27|28|30|31|32|33|35|36|37|38|39|40|41|42|43|44|45|46|47|48|49|50|51=>trivial
   | j+53=>trivial
  | 40,_ =>
   refine⟨_,rfl,rfl,?_⟩;unfold Ar;go_simp;exact⟨rfl,HGG.out,Fr.refl _ _,fun _ _=>trivial⟩
  | 41,_ =>
   have d40:=hd 40 (by kernel_rfl);have x40:=hev.dep 40 46 (by kernel_rfl) (by kernel_rfl);simp only[RaV] at d40;rw[d40] at x40;refine⟨_,rfl,rfl,?_⟩;unfold Ar;go_simp;exact⟨rfl,HGG.out,Fr.refl _ _,fun _ _=>trivial⟩
  | 42,_ =>
   have d41:=hd 41 (by kernel_rfl);have x41:=hev.dep 41 47 (by kernel_rfl) (by kernel_rfl);simp only[RaV] at d41;rw[d41] at x41;refine⟨_,rfl,rfl,?_⟩;unfold Ar;go_simp;exact⟨rfl,HGG.out,Fr.refl _ _,fun _ _=>trivial⟩
  | 43,_ =>
   have d42:=hd 42 (by kernel_rfl);have x42:=hev.dep 42 48 (by kernel_rfl) (by kernel_rfl);simp only[RaV] at d42;rw[d42] at x42;have c0:=HM.out.blk.cell 45;rw[HM.out.c.c45] at c0;refine⟨_,rfl,rfl,?_⟩;unfold Ar;go_simp;exact⟨rfl,HGG.out,Fr.refl _ _,fun _ _=>trivial⟩
  | 44,_ =>
   refine⟨_,rfl,rfl,?_⟩;unfold Ar;go_simp;exact⟨rfl,HGG.out,Fr.refl _ _,fun _ _=>trivial⟩
  | 45,_ =>
   have d44:=hd 44 (by kernel_rfl);have x44:=hev.dep 44 50 (by kernel_rfl) (by kernel_rfl);simp only[RaV] at d44;rw[d44] at x44;refine⟨_,rfl,rfl,?_⟩;unfold Ar;go_simp;exact⟨rfl,HGG.out,Fr.refl _ _,fun _ _=>trivial⟩
  | 46,_ =>
   have d45:=hd 45 (by kernel_rfl);have x45:=hev.dep 45 51 (by kernel_rfl) (by kernel_rfl);simp only[RaV] at d45;rw[d45] at x45;refine⟨_,rfl,rfl,?_⟩;unfold Ar;go_simp;exact⟨rfl,HGG.out,Fr.refl _ _,fun _ _=>trivial⟩
  | 47,_ =>
   have d46:=hd 46 (by kernel_rfl);have x46:=hev.dep 46 52 (by kernel_rfl) (by kernel_rfl);simp only[RaV] at d46;rw[d46] at x46;have c0:=HM.out.blk.cell 46;rw[HM.out.c.c46] at c0;refine⟨_,rfl,rfl,?_⟩;unfold Ar;go_simp;exact⟨rfl,HGG.out,Fr.refl _ _,fun _ _=>trivial⟩
  | 48,_ =>
   refine⟨_,rfl,rfl,?_⟩;unfold Ar;go_simp;exact⟨rfl,HGG.out,Fr.refl _ _,fun _ _=>trivial⟩
  | 49,_ =>
   have d48:=hd 48 (by kernel_rfl);have x48:=hev.dep 48 54 (by kernel_rfl) (by kernel_rfl);simp only[RaV] at d48;rw[d48] at x48;refine⟨_,rfl,rfl,?_⟩;unfold Ar;go_simp;exact⟨rfl,HGG.out,Fr.refl _ _,fun _ _=>trivial⟩
  | 50,_ =>
   have d49:=hd 49 (by kernel_rfl);have x49:=hev.dep 49 55 (by kernel_rfl) (by kernel_rfl);simp only[RaV] at d49;rw[d49] at x49;refine⟨_,rfl,rfl,?_⟩;unfold Ar;go_simp;exact⟨rfl,HGG.out,Fr.refl _ _,fun _ _=>trivial⟩
  | 51,_ =>
   have d50:=hd 50 (by kernel_rfl);have x50:=hev.dep 50 56 (by kernel_rfl) (by kernel_rfl);simp only[RaV] at d50;rw[d50] at x50;have c0:=HM.out.blk.cell 48;rw[HM.out.c.c48] at c0;refine⟨_,rfl,rfl,?_⟩;unfold Ar;go_simp;exact⟨rfl,HGG.out,Fr.refl _ _,fun _ _=>trivial⟩
  | 52,_ =>
   have d24:=hd 24 (by kernel_rfl);have x24:=hev.dep 24 30 (by kernel_rfl) (by kernel_rfl);simp only[RaV] at d24;have d29:=hd 29 (by kernel_rfl);have x29:=hev.dep 29 35 (by kernel_rfl) (by kernel_rfl);simp only[RaV] at d29;have d34:=hd 34 (by kernel_rfl);have x34:=hev.dep 34 40 (by kernel_rfl) (by kernel_rfl);simp only[RaV] at d34;have d39:=hd 39 (by kernel_rfl);have x39:=hev.dep 39 45 (by kernel_rfl) (by kernel_rfl);simp only[RaV] at d39;have d43:=hd 43 (by kernel_rfl);have x43:=hev.dep 43 49 (by kernel_rfl) (by kernel_rfl);simp only[RaV] at d43;have d47:=hd 47 (by kernel_rfl);have x47:=hev.dep 47 53 (by kernel_rfl) (by kernel_rfl);simp only[RaV] at d47;have d51:=hd 51 (by kernel_rfl);have x51:=hev.dep 51 57 (by kernel_rfl) (by kernel_rfl);simp only[RaV] at d51;obtain⟨og,cu,to,en,hz,o1,o2,o3,o4⟩:=d24;rw[hz] at x24;obtain⟨A1,c1,hv1⟩:=Ae o1;obtain⟨A2,c2,hv2⟩:=Ae o2;obtain⟨A3,c3,hv3⟩:=Ae o3;obtain⟨A4,c4,hv4⟩:=Ae o4;obtain⟨hv1,_⟩:=hv1;obtain⟨hv2,_⟩:=hv2;obtain⟨hv3,_⟩:=hv3;obtain⟨hv4,_⟩:=hv4;subst hv1 hv2 hv3 hv4;obtain⟨A5,c5,hv5⟩:∃ A c,val 29=.slice A _ c:=by obtain⟨A,c,e,_⟩:=Ae d29;exact⟨A,c,e⟩
   rw[hv5] at x29 d29;obtain⟨A6,c6,hv6⟩:∃ A c,val 34=.slice A _ c:=by obtain⟨A,c,e,_⟩:=Ae d34;exact⟨A,c,e⟩
   rw[hv6] at x34 d34;obtain⟨A7,c7,hv7⟩:∃ A c,val 39=.slice A _ c:=by obtain⟨A,c,e,_⟩:=Ae d39;exact⟨A,c,e⟩
   rw[hv7] at x39 d39;rw[d43] at x43;rw[d47] at x47;rw[d51] at x51;have HR:=Aa (RanAt.mk o1 o2 o3 o4 d29 d34 d39);clear o1 o2 o3 o4 d29 d34 d39;refine⟨_,rfl,rfl,?_⟩;unfold Ar;go_simp;refine⟨⟨_,_,_,_,_,_,_,rfl,HR.out⟩,HGG.out,Fr.refl _ _,fun j hj=>?_⟩
   match j with
   | 24=>exact⟨_,_,_,_,_,_,_,_,_,_,rfl,hz⟩
   | 29=>exact⟨_,_,_,_,_,_,_,_,_,by rw[hv5]⟩
   | 34=>exact⟨_,_,_,_,_,_,_,_,_,by rw[hv6]⟩
   | 39=>exact⟨_,_,_,_,_,_,_,_,_,by rw[hv7]⟩
   | 0|1|2|3|4|5|6|7|8|9|10|11|12|13|14|15|16|17|18|19|20|21|22|23|25|26|27|28|30|31|32|33|35|36|37|38|40|41|42|43|44|45|46|47|48|49|50|51|52=>trivial
   | j+53=>trivial
  | i+53,hi=>exact absurd hi (by simp)
 ·intro val W hG hV hD;have ap:∀ i j,i<53→j<53→i≠j→RaD i (val i) j (val j)∨RaD j (val j) i (val i):=fun i j hi hj hn=>hD i j hi hj hn
  have two:∀ i j,i<53→j<53→i≠j→(RaD i (val i) j (val j)↔Apart (val i) (val j))→(RaD j (val j) i (val i)↔Apart (val j) (val i))→Apart (val i) (val j):=fun i j hi hj hn h1 h2=>by
   rcases ap i j hi hj hn with h|h
   ·exact h1.1 h
   ·exact Apart.symm (h2.1 h)
  have a1:=two 5 11 (by decide) (by decide) (by decide) Iff.rfl Iff.rfl;have a2:=two 17 23 (by decide) (by decide) (by decide) Iff.rfl Iff.rfl;have a3:=two 17 29 (by decide) (by decide) (by decide) Iff.rfl Iff.rfl;have a4:=two 17 34 (by decide) (by decide) (by decide) Iff.rfl Iff.rfl;have a5:=two 17 39 (by decide) (by decide) (by decide) Iff.rfl Iff.rfl;have a6:=two 23 29 (by decide) (by decide) (by decide) Iff.rfl Iff.rfl;have a7:=two 23 34 (by decide) (by decide) (by decide) Iff.rfl Iff.rfl;have a8:=two 23 39 (by decide) (by decide) (by decide) Iff.rfl Iff.rfl;have a9:=two 29 34 (by decide) (by decide) (by decide) Iff.rfl Iff.rfl;have a10:=two 29 39 (by decide) (by decide) (by decide) Iff.rfl Iff.rfl;have a11:=two 34 39 (by decide) (by decide) (by decide) Iff.rfl Iff.rfl;have pt:∀ i j,i<53→j<53→i≠j→(RaD j (val j) i (val i)→False)→RaD i (val i) j (val j):=fun i j hi hj hn h1=>(ap i j hi hj hn).resolve_right h1
  have e5:=pt 24 5 (by decide) (by decide) (by decide) (fun h=>h);have e11:=pt 24 11 (by decide) (by decide) (by decide) (fun h=>h);have e17:=pt 24 17 (by decide) (by decide) (by decide) (fun h=>h);have e23:=pt 24 23 (by decide) (by decide) (by decide) (fun h=>h);have e24:=pt 52 24 (by decide) (by decide) (by decide) (fun h=>h);have e29:=pt 52 29 (by decide) (by decide) (by decide) (fun h=>h);have e34:=pt 52 34 (by decide) (by decide) (by decide) (fun h=>h);have e39:=pt 52 39 (by decide) (by decide) (by decide) (fun h=>h);have hap:∀ og cu to en cv st sk a b c,val 52=.agg #[og,cu,to,en,cv,st,sk,a,b,c]→RanAp og cu to en cv st sk:=fun og cu to en cv st sk a b c h=>by
   obtain⟨_,_,_,e5⟩:=e5;obtain⟨_,_,_,e11⟩:=e11;obtain⟨_,_,_,e17⟩:=e17;obtain⟨_,_,_,e23⟩:=e23;obtain⟨_,_,_,_,_,_,_,_,_,_,e24,e24'⟩:=e24;obtain⟨_,_,_,_,_,_,_,_,_,e29⟩:=e29;obtain⟨_,_,_,_,_,_,_,_,_,e34⟩:=e34;obtain⟨_,_,_,_,_,_,_,_,_,e39⟩:=e39;rw[h] at e24 e29 e34 e39;rw[e24'] at e5 e11 e17 e23;simp only[Value.agg.injEq,Array.mk.injEq,List.cons.injEq,and_true] at e24 e29 e34 e39 e5 e11 e17 e23;have h0:og=val 5:=e24.1.trans e5.1;have h1:cu=val 11:=e24.2.1.trans e11.2.1;have h2:to=val 17:=e24.2.2.1.trans e17.2.2.1;have h3:en=val 23:=e24.2.2.2.1.trans e23.2.2.2;have h4:cv=val 29:=e29.2.2.2.2.1;have h5:st=val 34:=e34.2.2.2.2.2.1;have h6:sk=val 39:=e39.2.2.2.2.2.2.1;rw[h0,h1,h2,h3,h4,h5,h6];exact⟨a1,a2,a3,a4,a5,a6,a7,a8,a9,a10,a11⟩
  have HAP:=Aa hap;clear hD ap two a1 a2 a3 a4 a5 a6 a7 a8 a9 a10 a11 pt e5 e11 e17 e23 e24 e29 e34 e39 hap;have v52:=hV 52 (by simp);simp only[RaV] at v52;obtain⟨og,cu,to,en,cv,st,sk,hv,hra⟩:=v52;have HA:=Aa (HAP.out _ _ _ _ _ _ _ _ _ _ hv);clear HAP;have hbk:=hG.blk HB.out (fun x=>x);have hblX:=HW.out.trans (Grow.below hG hwX);obtain⟨A1,c1,rfl,_⟩:=Ae hra.og;obtain⟨A2,c2,rfl,_⟩:=Ae hra.cu;obtain⟨A3,c3,rfl,_⟩:=Ae hra.to;obtain⟨A4,c4,rfl,_⟩:=Ae hra.en;obtain⟨A5,c5,rfl,_⟩:=Ae hra.cv;obtain⟨A6,c6,rfl,_⟩:=Ae hra.st;obtain⟨A7,c7,rfl,_⟩:=Ae hra.sk;have hst:=Eo hbk hra Ad hblX (.slice A1 s.org.length c1) (.slice A2 s.cur.length c2) (.slice A3 s.touch.length c3) (.slice A4 s.ends.length c4) (.slice A5 s.cvt.length c5) (.slice A6 32 c6) (.slice A7 s.stack.length c7) (.int .i64 s.steps) (.int .i64 s.peak) (.int .i64 s.err);have HST:=Aa hst;have b0:=hbk.cell;have b1:=hbk.frozen;have b2:=hbk.lt;clear hV hst hbk hra hblX hG HW HX HB hwX;unfold wpOp;change (if _ then _ else _);rw[if_pos (by kernel_rfl)];refine .inl ?_;simp only[Nq,Eb,List.getElem?_toArray,List.getElem?_cons_zero,List.getElem?_cons_succ,Option.bind_some];go_simp;unfold Hi at HST
  generalize ((((((((((W.setCell ⟨w.heap.size,0,none⟩ (.slice A1 s.org.length c1)).setCell ⟨w.heap.size,1,none⟩ (.slice A2 s.cur.length c2)).setCell ⟨w.heap.size,2,none⟩ (.slice A3 s.touch.length c3)).setCell ⟨w.heap.size,3,none⟩ (.slice A4 s.ends.length c4)).setCell ⟨w.heap.size,4,none⟩ (.slice A5 s.cvt.length c5)).setCell ⟨w.heap.size,5,none⟩ (.slice A6 32 c6)).setCell ⟨w.heap.size,6,none⟩ (.slice A7 s.stack.length c7)).setCell ⟨w.heap.size,7,none⟩ (.int .i64 s.steps)).setCell ⟨w.heap.size,8,none⟩ (.int .i64 s.peak)).setCell ⟨w.heap.size,9,none⟩ (.int .i64 s.err))=W9 at HST ⊢;have e2:=HST.out.2.2.lt;have e1:=HST.out.2.2.cell;simp only[List.setIfInBounds_toArray,List.set_cons_zero,List.set_cons_succ] at e1;have y0:=e1 0;simp only[List.getElem?_toArray,List.getElem?_cons_zero] at y0;have y1:=e1 1;simp only[List.getElem?_toArray,List.getElem?_cons_zero,List.getElem?_cons_succ] at y1;have y2:=e1 2;simp only[List.getElem?_toArray,List.getElem?_cons_zero,List.getElem?_cons_succ] at y2;have y3:=e1 3;simp only[List.getElem?_toArray,List.getElem?_cons_zero,List.getElem?_cons_succ] at y3;have y4:=e1 4;simp only[List.getElem?_toArray,List.getElem?_cons_zero,List.getElem?_cons_succ] at y4;have y5:=e1 5;simp only[List.getElem?_toArray,List.getElem?_cons_zero,List.getElem?_cons_succ] at y5;have y6:=e1 6;simp only[List.getElem?_toArray,List.getElem?_cons_zero,List.getElem?_cons_succ] at y6;have y7:=e1 7;simp only[List.getElem?_toArray,List.getElem?_cons_zero,List.getElem?_cons_succ] at y7
  have y8:=e1 8;simp only[List.getElem?_toArray,List.getElem?_cons_zero,List.getElem?_cons_succ] at y8;have y9:=e1 9;simp only[List.getElem?_toArray,List.getElem?_cons_zero,List.getElem?_cons_succ] at y9;have HR:=Aa HST.out.1;have HBL:=Aa HST.out.2.1;clear HST b0 b1 b2 e1 hv;go_wp2_with fail
  refine bodyPost_ret (v:=.agg #[.slice A1 s.org.length c1,.slice A2 s.cur.length c2,.slice A3 s.touch.length c3,.slice A4 s.ends.length c4,.slice A5 s.cvt.length c5,.slice A6 32 c6,.slice A7 s.stack.length c7,.int .i64 s.steps,.int .i64 s.peak,.int .i64 s.err]) (by simp[results,Tryz.results71,go_sem,y0,y1,y2,y3,y4,y5,y6,y7,y8,y9]) rfl ?_;exact⟨_,_,_,_,_,_,_,rfl,HR.out,HBL.out,HA.out⟩
theorem Vs (w:World) (mb:Nat) (O:Nat→Prop) (L:Lay) (s:St) (h:MaL w mb O L s) :
  Calls Tryz.prog 71 #[.pointer (some ⟨mb,0,none⟩)] w (Qf w s) :=
 (Qt w mb O L s h).mono fun _ _ ⟨og,cu,to,en,cv,st,sk,e,h1,h2,_⟩=>⟨og,cu,to,en,cv,st,sk,e,h1,h2⟩
end Go.Proofs.YtnhebmgibiomnaaGreat

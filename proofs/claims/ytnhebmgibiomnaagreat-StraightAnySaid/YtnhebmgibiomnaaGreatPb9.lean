/- Parts of the proof, joined: SrG SrH SrI. -/
import Derived.Test.YtnhebmgibiomnaaGreatPb8
set_option linter.unusedVariables false
set_option linter.unusedSimpArgs false
set_option maxRecDepth 100000
set_option maxHeartbeats 8000000
namespace Go.Proofs.YtnhebmgibiomnaaGreat
open Go.RowKit Mc
theorem SPost.to {w w1:World} {sb:Nat} {L:SLay} {s':Sr.St} (h:SrL w1 sb L s') (hf:Fr (SrS L sb) w w1):SPost w sb L s' (.returned (.tuple #[])) w1:=⟨rfl,h,hf⟩
theorem Mo (w:World) (sb:Nat) (L:SLay) (s:Sr.St) (h:SrL w sb L s) (op n b d:Int) (a:Nat) (ha:a<64) (A:Option Addr) (k c:Nat) (hk:k≤1000000) (hx:¬ (0≤s.regs.getD a 0∧s.regs.getD a 0<k)) :
  Calls Tryz.prog 130 #[.pointer (some ⟨sb,0,none⟩),.slice A k c,Cu ⟨op,d,a,b,n⟩] w (SPost w sb L s):=by
 unfold Cu;have H:=Aa h;have ha64:(a:Int)<64:=by omega
 have hs1:=h.blk.lt;obtain⟨x,hxe,_,_⟩:=h.getR ha;rw[hxe] at hx;have HX:=Aa hxe;clear h hxe;by_cases h0:0≤x
 ·have h1:¬ x<k:=fun e=>hx ⟨h0,e⟩
  clear hx;go_enter Tryz.func130,Tryz.ntmps130;go_wp2_with fail
  have r1:(w.alloc (.cells #[.int .i64 op,.int .i64 (d:Int),.int .i64 (a:Int),.int .i64 (b:Int),.int .i64 n] 50)).cell? ⟨w.heap.size,1,none⟩=some (.int .i64 (d:Int)):=(Blk.new w _ _).cell 1;have r2:(w.alloc (.cells #[.int .i64 op,.int .i64 (d:Int),.int .i64 (a:Int),.int .i64 (b:Int),.int .i64 n] 50)).cell? ⟨w.heap.size,2,none⟩=some (.int .i64 (a:Int)):=(Blk.new w _ _).cell 2;have r3:(w.alloc (.cells #[.int .i64 op,.int .i64 (d:Int),.int .i64 (a:Int),.int .i64 (b:Int),.int .i64 n] 50)).cell? ⟨w.heap.size,3,none⟩=some (.int .i64 (b:Int)):=(Blk.new w _ _).cell 3;have H1:=Aa (H.out.alloc (.cells #[.int .i64 op,.int .i64 (d:Int),.int .i64 (a:Int),.int .i64 (b:Int),.int .i64 n] 50));have F1:=Aa ((Fr.refl (SrS L sb) w).alloc (.cells #[.int .i64 op,.int .i64 (d:Int),.int .i64 (a:Int),.int .i64 (b:Int),.int .i64 n] 50));have hz:w.heap.size<(w.alloc (.cells #[.int .i64 op,.int .i64 (d:Int),.int .i64 (a:Int),.int .i64 (b:Int),.int .i64 n] 50)).heap.size:=by simp
  generalize (w.alloc (.cells #[.int .i64 op,.int .i64 (d:Int),.int .i64 (a:Int),.int .i64 (b:Int),.int .i64 n] 50))=W at *;have c1:=H1.out.reg ha;rw[HX.out] at c1;have hS:W.drew.cell? ⟨w.heap.size,2,none⟩=some (.int .i64 (a:Int))∧W.drew.cell? ⟨sb,a,none⟩=some (.int .i64 x):=⟨r2,c1⟩;refine Bl [] [2,6] [] 8 (fun wq:World=>wq.cell? ⟨w.heap.size,2,none⟩=some (.int .i64 (a:Int))∧wq.cell? ⟨sb,a,none⟩=some (.int .i64 x)) ?_
  repeat (first|refine Ai ?_|refine An hS ?_)
  refine Ah ?_;clear c1;have H1:=Aa H1.out.drew;have F1:=Aa F1.out.drew
  replace r1:W.drew.cell? ⟨w.heap.size,1,none⟩=some (.int .i64 (d:Int)):=r1
  replace r2:W.drew.cell? ⟨w.heap.size,2,none⟩=some (.int .i64 (a:Int)):=r2
  replace r3:W.drew.cell? ⟨w.heap.size,3,none⟩=some (.int .i64 (b:Int)):=r3
  replace hz:w.heap.size<W.drew.heap.size:=hz
  clear hS;generalize W.drew=W at *;go_wp2;go_end0;exact .here H1.out F1.out
 ·clear hx;go_enter Tryz.func130,Tryz.ntmps130;go_wp2_with fail
  have r1:(w.alloc (.cells #[.int .i64 op,.int .i64 (d:Int),.int .i64 (a:Int),.int .i64 (b:Int),.int .i64 n] 50)).cell? ⟨w.heap.size,1,none⟩=some (.int .i64 (d:Int)):=(Blk.new w _ _).cell 1;have r2:(w.alloc (.cells #[.int .i64 op,.int .i64 (d:Int),.int .i64 (a:Int),.int .i64 (b:Int),.int .i64 n] 50)).cell? ⟨w.heap.size,2,none⟩=some (.int .i64 (a:Int)):=(Blk.new w _ _).cell 2;have r3:(w.alloc (.cells #[.int .i64 op,.int .i64 (d:Int),.int .i64 (a:Int),.int .i64 (b:Int),.int .i64 n] 50)).cell? ⟨w.heap.size,3,none⟩=some (.int .i64 (b:Int)):=(Blk.new w _ _).cell 3;have H1:=Aa (H.out.alloc (.cells #[.int .i64 op,.int .i64 (d:Int),.int .i64 (a:Int),.int .i64 (b:Int),.int .i64 n] 50));have F1:=Aa ((Fr.refl (SrS L sb) w).alloc (.cells #[.int .i64 op,.int .i64 (d:Int),.int .i64 (a:Int),.int .i64 (b:Int),.int .i64 n] 50));have hz:w.heap.size<(w.alloc (.cells #[.int .i64 op,.int .i64 (d:Int),.int .i64 (a:Int),.int .i64 (b:Int),.int .i64 n] 50)).heap.size:=by simp
  generalize (w.alloc (.cells #[.int .i64 op,.int .i64 (d:Int),.int .i64 (a:Int),.int .i64 (b:Int),.int .i64 n] 50))=W at *;have c1:=H1.out.reg ha;rw[HX.out] at c1;have hS:W.drew.cell? ⟨w.heap.size,2,none⟩=some (.int .i64 (a:Int))∧W.drew.cell? ⟨sb,a,none⟩=some (.int .i64 x):=⟨r2,c1⟩;refine Bl [] [2,6] [] 8 (fun wq:World=>wq.cell? ⟨w.heap.size,2,none⟩=some (.int .i64 (a:Int))∧wq.cell? ⟨sb,a,none⟩=some (.int .i64 x)) ?_
  repeat (first|refine Ai ?_|refine An hS ?_)
  refine Ah ?_;clear c1;have H1:=Aa H1.out.drew;have F1:=Aa F1.out.drew
  replace r1:W.drew.cell? ⟨w.heap.size,1,none⟩=some (.int .i64 (d:Int)):=r1
  replace r2:W.drew.cell? ⟨w.heap.size,2,none⟩=some (.int .i64 (a:Int)):=r2
  replace r3:W.drew.cell? ⟨w.heap.size,3,none⟩=some (.int .i64 (b:Int)):=r3
  replace hz:w.heap.size<W.drew.heap.size:=hz
  clear hS;generalize W.drew=W at *;go_wp2;go_end0;exact .here H1.out F1.out
theorem Kr (w:World) (sb:Nat) (L:SLay) (s:Sr.St) (h:SrL w sb L s) (op n d:Int) (a b:Nat) (ha:a<64) (hb:b<64) (i k c g:Nat) (hk:k≤1000000) (hx:s.regs.getD a 0=i) (hi:i<k) (s':Sr.St) (hg:SrS L sb g)
  (hrow:∀ W,SrL W sb L s→SrL (W.setCell ⟨g,i,none⟩ (.int .i64 (s.regs.getD b 0))) sb L s'∧(∃ u,W.cell? ⟨g,i,none⟩=some u)∧W.frozen? ⟨g,i,none⟩=false) :
  Calls Tryz.prog 130 #[.pointer (some ⟨sb,0,none⟩),.slice (some ⟨g,0,none⟩) k c,Cu ⟨op,d,a,b,n⟩] w (SPost w sb L s'):=by
 unfold Cu;have H:=Aa h;have ha64:(a:Int)<64:=by omega
 have hb64:(b:Int)<64:=by omega
 have hs1:=h.blk.lt;have HX:=Aa hx;have HR:=Aa hrow;obtain⟨y,hye,_,_⟩:=h.getR hb;have HY:=Aa hye;rw[hye] at HR;clear h hx hye hrow;go_enter Tryz.func130,Tryz.ntmps130;go_wp2_with fail
 have r1:(w.alloc (.cells #[.int .i64 op,.int .i64 (d:Int),.int .i64 (a:Int),.int .i64 (b:Int),.int .i64 n] 50)).cell? ⟨w.heap.size,1,none⟩=some (.int .i64 (d:Int)):=(Blk.new w _ _).cell 1;have r2:(w.alloc (.cells #[.int .i64 op,.int .i64 (d:Int),.int .i64 (a:Int),.int .i64 (b:Int),.int .i64 n] 50)).cell? ⟨w.heap.size,2,none⟩=some (.int .i64 (a:Int)):=(Blk.new w _ _).cell 2;have r3:(w.alloc (.cells #[.int .i64 op,.int .i64 (d:Int),.int .i64 (a:Int),.int .i64 (b:Int),.int .i64 n] 50)).cell? ⟨w.heap.size,3,none⟩=some (.int .i64 (b:Int)):=(Blk.new w _ _).cell 3;have H1:=Aa (H.out.alloc (.cells #[.int .i64 op,.int .i64 (d:Int),.int .i64 (a:Int),.int .i64 (b:Int),.int .i64 n] 50));have F1:=Aa ((Fr.refl (SrS L sb) w).alloc (.cells #[.int .i64 op,.int .i64 (d:Int),.int .i64 (a:Int),.int .i64 (b:Int),.int .i64 n] 50));have hz:w.heap.size<(w.alloc (.cells #[.int .i64 op,.int .i64 (d:Int),.int .i64 (a:Int),.int .i64 (b:Int),.int .i64 n] 50)).heap.size:=by simp
 generalize (w.alloc (.cells #[.int .i64 op,.int .i64 (d:Int),.int .i64 (a:Int),.int .i64 (b:Int),.int .i64 n] 50))=W at *;have c1:=H1.out.reg ha;rw[HX.out] at c1;have hS:W.drew.cell? ⟨w.heap.size,2,none⟩=some (.int .i64 (a:Int))∧W.drew.cell? ⟨sb,a,none⟩=some (.int .i64 i):=⟨r2,c1⟩;refine Bl [] [2,6] [] 8 (fun wq:World=>wq.cell? ⟨w.heap.size,2,none⟩=some (.int .i64 (a:Int))∧wq.cell? ⟨sb,a,none⟩=some (.int .i64 i)) ?_
 repeat (first|refine Ai ?_|refine An hS ?_)
 refine Ah ?_;clear c1;have H1:=Aa H1.out.drew;have F1:=Aa F1.out.drew
 replace r1:W.drew.cell? ⟨w.heap.size,1,none⟩=some (.int .i64 (d:Int)):=r1
 replace r2:W.drew.cell? ⟨w.heap.size,2,none⟩=some (.int .i64 (a:Int)):=r2
 replace r3:W.drew.cell? ⟨w.heap.size,3,none⟩=some (.int .i64 (b:Int)):=r3
 replace hz:w.heap.size<W.drew.heap.size:=hz
 clear hS;generalize W.drew=W at *;go_wp2_with fail
 have c2:=H1.out.reg hb;rw[HY.out] at c2;obtain⟨h2,⟨u,cu⟩,fz⟩:=HR.out W.drew H1.out.drew;have HP:=Aa (SPost.to h2 (F1.out.drew.setCell (p:=⟨g,i,none⟩) (.inl hg) (.int .i64 y)));clear h2;have hS:W.drew.cell? ⟨w.heap.size,3,none⟩=some (.int .i64 (b:Int))∧W.drew.cell? ⟨sb,b,none⟩=some (.int .i64 y):=⟨r3,c2⟩;refine Bl [10] [4,8] [] 11 (fun wq:World=>wq.cell? ⟨w.heap.size,3,none⟩=some (.int .i64 (b:Int))∧wq.cell? ⟨sb,b,none⟩=some (.int .i64 y)) ?_
 repeat (first|refine Ai ?_|refine An hS ?_)
 refine Aq fun K hK=>?_;go_simp
 refine Aj hK ?_;clear hK K;refine Ah ?_;go_wp2;go_end0;exact HP.out
def It (s:Sr.St) (l:List (Int×Int)) (d:Nat) (p:Int):Sr.St := { s with regs:=s.regs.set d (if has s.m p then Az s.m.look (l.getD p.toNat (0,0)) else 0) }
theorem Ks (w:World) (sb:Nat) (L:SLay) (s:Sr.St) (h:SrL w sb L s) (op n b:Int) (d a:Nat) (hd:d<64) (ha:a<64) (v:Value) (l:List (Int×Int)) (hl:l.length=s.m.cur.length) (hv:∀ W,SrL W sb L s→W.ownsRow 0 76 2 v l.length (pts l)) (hk:∀ p∈l,K32 p.1∧K32 p.2) :
  Calls Tryz.prog 138 #[.pointer (some ⟨sb,0,none⟩),v,Cu ⟨op,d,a,b,n⟩] w (SPost w sb L (It s l d (s.regs.getD a 0))):=by
 unfold Cu;have H:=Aa h;have ha64:(a:Int)<64:=by omega
 have hd64:(d:Int)<64:=by omega
 have hs1:=h.blk.lt;have hcl:=h.ok.m.curl;have hlk:=h.ok.m.look;obtain⟨x,hx,c1,hxk⟩:=h.getR ha;have HX:=Aa hx;rw[hx];obtain⟨A,c,rfl,hc1,hc2⟩:=Ae (hv w h);have HV:=Aa hv;have HL:=Aa hl;by_cases hh:has s.m x=true
 ·obtain⟨i,rfl,hi⟩:=Fq hh;have hil:i<l.length:=by omega
  have hll:l.length≤1000000:=by omega
  obtain⟨p,hp⟩:∃ p,l[i]?=some p:=⟨_,List.getElem?_eq_getElem hil⟩;have HQ:=Aa (show It s l d i = { s with regs:=s.regs.set d (Az s.m.look p) } by unfold It;rw[if_pos hh,Int.toNat_natCast,Bs hp]);have hck:K32 (Az s.m.look p):=by
   have:=hk p (List.mem_of_getElem? hp);unfold Az;split
   ·exact this.2
   ·exact this.1
  have HCK:=Aa hck;have HH:=Aa hh;have HPP:=Aa hp;clear h hx hv hk hc1 hc2 c1 hl hh hp hck;go_enter Tryz.func138,Tryz.ntmps138;go_wp2_with fail
  have r1:(w.alloc (.cells #[.int .i64 op,.int .i64 (d:Int),.int .i64 (a:Int),.int .i64 (b:Int),.int .i64 n] 50)).cell? ⟨w.heap.size,1,none⟩=some (.int .i64 (d:Int)):=(Blk.new w _ _).cell 1;have r2:(w.alloc (.cells #[.int .i64 op,.int .i64 (d:Int),.int .i64 (a:Int),.int .i64 (b:Int),.int .i64 n] 50)).cell? ⟨w.heap.size,2,none⟩=some (.int .i64 (a:Int)):=(Blk.new w _ _).cell 2;have r3:(w.alloc (.cells #[.int .i64 op,.int .i64 (d:Int),.int .i64 (a:Int),.int .i64 (b:Int),.int .i64 n] 50)).cell? ⟨w.heap.size,3,none⟩=some (.int .i64 (b:Int)):=(Blk.new w _ _).cell 3;have H1:=Aa (H.out.alloc (.cells #[.int .i64 op,.int .i64 (d:Int),.int .i64 (a:Int),.int .i64 (b:Int),.int .i64 n] 50));have F1:=Aa ((Fr.refl (SrS L sb) w).alloc (.cells #[.int .i64 op,.int .i64 (d:Int),.int .i64 (a:Int),.int .i64 (b:Int),.int .i64 n] 50));have hz:w.heap.size<(w.alloc (.cells #[.int .i64 op,.int .i64 (d:Int),.int .i64 (a:Int),.int .i64 (b:Int),.int .i64 n] 50)).heap.size:=by simp
  generalize (w.alloc (.cells #[.int .i64 op,.int .i64 (d:Int),.int .i64 (a:Int),.int .i64 (b:Int),.int .i64 n] 50))=W at *;have c1:=H1.out.reg ha;rw[HX.out] at c1;have hS:W.drew.cell? ⟨w.heap.size,2,none⟩=some (.int .i64 (a:Int))∧W.drew.cell? ⟨sb,a,none⟩=some (.int .i64 i):=⟨r2,c1⟩;refine Bl [] [2,6] [] 9 (fun wq:World=>wq.cell? ⟨w.heap.size,2,none⟩=some (.int .i64 (a:Int))∧wq.cell? ⟨sb,a,none⟩=some (.int .i64 i)) ?_
  repeat (first|refine Ai ?_|refine An hS ?_)
  refine Ah ?_;clear c1;have H1:=Aa H1.out.drew;have F1:=Aa F1.out.drew
  replace r1:W.drew.cell? ⟨w.heap.size,1,none⟩=some (.int .i64 (d:Int)):=r1
  replace r2:W.drew.cell? ⟨w.heap.size,2,none⟩=some (.int .i64 (a:Int)):=r2
  replace r3:W.drew.cell? ⟨w.heap.size,3,none⟩=some (.int .i64 (b:Int)):=r3
  replace hz:w.heap.size<W.drew.heap.size:=hz
  clear hS;generalize W.drew=W at *;go_wp2_with fail
  refine(Cw _ _ _ _ H1.out _).mono ?_;rintro e w5 ⟨rfl,rfl⟩;rw[HH.out];go_wp2_with fail
  obtain⟨g,c',hA,_,_,hg,hcell⟩:=Bb (HV.out W H1.out) (by omega);have cp:=hcell _ _ (Cp HPP.out s.m.look)
  injection hA with hA
  subst hA;have c72:=H1.out.c72;clear hcell;generalize hlk':s.m.look=lk at *;have HLK:=Aa hlk';clear hlk';generalize hd':(if lk=1 then 1 else 0:Nat)=dd at *;have HD:=Aa hd';clear hd';have hS:W.drew.cell? ⟨sb,72,none⟩=some (.int .i64 lk)∧W.drew.cell? ⟨g,i*2+dd,none⟩=some (.int .i64 (Az lk p)):=⟨c72,cp⟩;refine Bl [7] [6,9] [] 11 (fun wq:World=>wq.cell? ⟨sb,72,none⟩=some (.int .i64 lk)∧wq.cell? ⟨g,i*2+dd,none⟩=some (.int .i64 (Az lk p))) ?_
  repeat (first|refine Ai ?_|refine An hS ?_)
  refine Aq fun K hK=>?_;go_simp
  refine(Cc _ _ _ _ hlk.1 hlk.2).mono ?_;rintro e w5 ⟨rfl,rfl⟩;rw[HD.out];dsimp only;refine hK _ _ (fun _=>hS) ?_;clear hK K
  repeat (first|refine Ai ?_|refine An hS ?_)
  refine Ah ?_;clear cp c72;have H1:=Aa H1.out.drew;have F1:=Aa F1.out.drew
  replace r1:W.drew.cell? ⟨w.heap.size,1,none⟩=some (.int .i64 (d:Int)):=r1
  replace r2:W.drew.cell? ⟨w.heap.size,2,none⟩=some (.int .i64 (a:Int)):=r2
  replace r3:W.drew.cell? ⟨w.heap.size,3,none⟩=some (.int .i64 (b:Int)):=r3
  replace hz:w.heap.size<W.drew.heap.size:=hz
  clear hS;generalize W.drew=W at *;go_wp2_with fail
  have fz:=H1.out.drew.blk.frozen d;have c0:=H1.out.drew.reg hd;have hS:W.drew.cell? ⟨w.heap.size,1,none⟩=some (.int .i64 (d:Int)):=r1;refine Bl [7] [2] [] 8 (fun wq:World=>wq.cell? ⟨w.heap.size,1,none⟩=some (.int .i64 (d:Int))) ?_
  repeat (first|refine Ai ?_|refine An hS ?_)
  refine Aq fun K hK=>?_;go_simp
  refine Aj hK ?_;clear hK K;refine Ah ?_;go_wp2;go_end0;exact HQ.out ▸ .put H1.out.drew F1.out.drew hd HCK.out
 ·have hh':has s.m x=false:=by simpa using hh
  have HQ:=Aa (show It s l d x = { s with regs:=s.regs.set d 0 } by unfold It;rw[if_neg hh]);have HH:=Aa hh';clear h hx hv hk hc1 hc2 c1 hl hh hh';go_enter Tryz.func138,Tryz.ntmps138;go_wp2_with fail
  have r1:(w.alloc (.cells #[.int .i64 op,.int .i64 (d:Int),.int .i64 (a:Int),.int .i64 (b:Int),.int .i64 n] 50)).cell? ⟨w.heap.size,1,none⟩=some (.int .i64 (d:Int)):=(Blk.new w _ _).cell 1;have r2:(w.alloc (.cells #[.int .i64 op,.int .i64 (d:Int),.int .i64 (a:Int),.int .i64 (b:Int),.int .i64 n] 50)).cell? ⟨w.heap.size,2,none⟩=some (.int .i64 (a:Int)):=(Blk.new w _ _).cell 2;have r3:(w.alloc (.cells #[.int .i64 op,.int .i64 (d:Int),.int .i64 (a:Int),.int .i64 (b:Int),.int .i64 n] 50)).cell? ⟨w.heap.size,3,none⟩=some (.int .i64 (b:Int)):=(Blk.new w _ _).cell 3;have H1:=Aa (H.out.alloc (.cells #[.int .i64 op,.int .i64 (d:Int),.int .i64 (a:Int),.int .i64 (b:Int),.int .i64 n] 50));have F1:=Aa ((Fr.refl (SrS L sb) w).alloc (.cells #[.int .i64 op,.int .i64 (d:Int),.int .i64 (a:Int),.int .i64 (b:Int),.int .i64 n] 50));have hz:w.heap.size<(w.alloc (.cells #[.int .i64 op,.int .i64 (d:Int),.int .i64 (a:Int),.int .i64 (b:Int),.int .i64 n] 50)).heap.size:=by simp
  generalize (w.alloc (.cells #[.int .i64 op,.int .i64 (d:Int),.int .i64 (a:Int),.int .i64 (b:Int),.int .i64 n] 50))=W at *;have c1:=H1.out.reg ha;rw[HX.out] at c1;have hS:W.drew.cell? ⟨w.heap.size,2,none⟩=some (.int .i64 (a:Int))∧W.drew.cell? ⟨sb,a,none⟩=some (.int .i64 x):=⟨r2,c1⟩;refine Bl [] [2,6] [] 9 (fun wq:World=>wq.cell? ⟨w.heap.size,2,none⟩=some (.int .i64 (a:Int))∧wq.cell? ⟨sb,a,none⟩=some (.int .i64 x)) ?_
  repeat (first|refine Ai ?_|refine An hS ?_)
  refine Ah ?_;clear c1;have H1:=Aa H1.out.drew;have F1:=Aa F1.out.drew
  replace r1:W.drew.cell? ⟨w.heap.size,1,none⟩=some (.int .i64 (d:Int)):=r1
  replace r2:W.drew.cell? ⟨w.heap.size,2,none⟩=some (.int .i64 (a:Int)):=r2
  replace r3:W.drew.cell? ⟨w.heap.size,3,none⟩=some (.int .i64 (b:Int)):=r3
  replace hz:w.heap.size<W.drew.heap.size:=hz
  clear hS;generalize W.drew=W at *;go_wp2_with fail
  refine(Cw _ _ _ _ H1.out _).mono ?_;rintro e w5 ⟨rfl,rfl⟩;rw[HH.out];go_wp2_with fail
  have fz:=H1.out.drew.blk.frozen d;have c0:=H1.out.drew.reg hd;have hS:W.drew.cell? ⟨w.heap.size,1,none⟩=some (.int .i64 (d:Int)):=r1;refine Bl [7] [2] [] 8 (fun wq:World=>wq.cell? ⟨w.heap.size,1,none⟩=some (.int .i64 (d:Int))) ?_
  repeat (first|refine Ai ?_|refine An hS ?_)
  refine Aq fun K hK=>?_;go_simp
  refine Aj hK ?_;clear hK K;refine Ah ?_;go_wp2;go_end0;exact HQ.out ▸ .put H1.out.drew F1.out.drew hd ⟨by decide,by decide⟩
def Su (s:Sr.St) (p d:Int):Sr.St:=if has s.m p then { s with m:=goes s.m p.toNat s.m.move (Az s.m.move (s.m.cur.getD p.toNat (0,0))+d) } else s
def Zbx (s:Sr.St) (p v:Int):Sr.St:=if s.m.look=s.m.move∧has s.m p then { s with m:=goes s.m p.toNat s.m.move v } else s
def Gg (s:Sr.St) (p q:Int):Sr.St:=if s.m.look=s.m.move∧has s.m p∧has s.m q then { s with m:=goes s.m q.toNat s.m.move (Az s.m.move (s.m.cur.getD p.toNat (0,0))) } else s
theorem Sk (w:World) (sb:Nat) (L:SLay) (s:Sr.St) (h:SrL w sb L s) (x d:Int) (hd:K32 d):Calls Tryz.prog 141 #[.pointer (some ⟨sb,0,none⟩),.int .i64 x,.int .i64 d] w (SPost w sb L (Su s x d)):=by
 have H:=Aa h;have hs1:=h.blk.lt;have hcl:=h.ok.m.curl;unfold K32 at hd;clear h;by_cases hh:has s.m x=true
 ·have HH:=Aa hh;obtain⟨i,rfl,hil⟩:=Fq hh;clear hh;have HQ:=Aa (show Su s i d = { s with m:=goes s.m i s.m.move (Az s.m.move (s.m.cur.getD i (0,0))+d) } by unfold Su;rw[if_pos HH.out,Int.toNat_natCast]);have HPUT:=Aa (fun (W:World) (hW:SrL W sb L s) (v:Int)=>Lm W sb L s hW i v hil);have hmv:=H.out.ok.m.move;obtain⟨g,c,x,hv,hc1,hx,hg,hcell,_⟩:=H.out.pt (p:=i) hil;have hxk:K32 (Az s.m.move x):=by
   have:=H.out.ok.m.cur x (List.mem_of_getElem? hx);unfold Az;split
   ·exact this.2
   ·exact this.1
  have c65:=H.out.c65;rw[hv] at c65;have c73:=H.out.c73;have cp:=hcell s.m.move;have HGX:=Aa (Bs (d:=(0,0)) hx);unfold K32 at hxk;clear hcell hv hx hc1;generalize hm:s.m.move=mv at *;have HM:=Aa hm;clear hm;generalize hd':(if mv=1 then 1 else 0:Nat)=dd at *;have HD:=Aa hd';clear hd';rw[HGX.out] at HQ;go_enter Tryz.func141,Tryz.ntmps141;go_wp2_with fail
  refine(Cw _ _ _ _ H.out _).mono ?_;rintro e w5 ⟨rfl,rfl⟩;rw[HH.out];go_wp2_with fail
  have hS:w.drew.cell? ⟨sb,65,none⟩=some (.slice (some ⟨g,0,none⟩) s.m.cur.length c)∧w.drew.cell? ⟨sb,73,none⟩=some (.int .i64 mv)∧w.drew.cell? ⟨g,i*2+dd,none⟩=some (.int .i64 (Az mv x)):=⟨c65,c73,cp⟩;refine Aw (fun i=>!([13,18]:List Nat).contains i) (fun i=>([6,12,15]:List Nat).contains i) (fun i=>([]:List Nat).contains i) [0,1,2,3,4,5,6,7,8,9,10,11,12,16,13,14,15,17,18] (fun wq:World=>wq.cell? ⟨sb,65,none⟩=some (.slice (some ⟨g,0,none⟩) s.m.cur.length c)∧wq.cell? ⟨sb,73,none⟩=some (.int .i64 mv)∧wq.cell? ⟨g,i*2+dd,none⟩=some (.int .i64 (Az mv x))) (by kernel_rfl) (by kernel_rfl) (by kernel_rfl) (by kernel_rfl) ?_
  iterate 14 (first|refine Ai ?_|refine An hS ?_)
  refine Aq fun K hK=>?_;go_simp
  refine(Cc _ _ _ _ hmv.1 hmv.2).mono ?_;rintro e w5 ⟨rfl,rfl⟩;rw[HD.out];dsimp only;refine hK _ _ (fun _=>hS) ?_;clear hK K
  iterate 3 (first|refine Ai ?_|refine An hS ?_)
  refine Aq fun K hK=>?_;go_simp
  refine(HPUT.out w.drew H.out.drew _).mono ?_;intro e w9 hp;have HP:=Aa (hp.from_ (Fr.refl _ w).drew);obtain⟨rfl,_⟩:=hp;dsimp only;refine Aj hK ?_;clear hK K;refine Ah ?_;go_wp2;go_end0;have hW:=HP.out;rw[IntWalk.i64_in _ (by omega)] at hW;rw[HQ.out];exact HM.out ▸ hW
 ·have hh':has s.m x=false:=by simpa using hh
  have HQ:=Aa (show Su s x d=s by unfold Su;rw[if_neg hh]);have HH:=Aa hh';clear hh hh';rw[HQ.out];go_enter Tryz.func141,Tryz.ntmps141;go_wp2_with fail
  refine(Cw _ _ _ _ H.out _).mono ?_;rintro e w5 ⟨rfl,rfl⟩;rw[HH.out];go_wp2;go_end0;exact .here H.out (Fr.refl _ w)
theorem Zt (w:World) (sb:Nat) (L:SLay) (s:Sr.St) (h:SrL w sb L s) (x v:Int):Calls Tryz.prog 143 #[.pointer (some ⟨sb,0,none⟩),.int .i64 x,.int .i64 v] w (SPost w sb L (Zbx s x v)):=by
 have H:=Aa h;have hs1:=h.blk.lt;have hcl:=h.ok.m.curl;have c72:=h.c72;have c73:=h.c73;clear h;by_cases hlm:s.m.look=s.m.move
 ·rw[hlm] at c72;by_cases hh:has s.m x=true
  ·have HH:=Aa hh;obtain⟨i,rfl,hil⟩:=Fq hh;have HQ:=Aa (show Zbx s i v = { s with m:=goes s.m i s.m.move v } by unfold Zbx;rw[if_pos ⟨hlm,hh⟩,Int.toNat_natCast]);clear hh hlm;go_enter Tryz.func143,Tryz.ntmps143;go_wp2_with fail
   have hS:w.drew.cell? ⟨sb,72,none⟩=some (.int .i64 s.m.move)∧w.drew.cell? ⟨sb,73,none⟩=some (.int .i64 s.m.move):=⟨c72,c73⟩;refine Bl [12] [3,7] [] 14 (fun wq:World=>wq.cell? ⟨sb,72,none⟩=some (.int .i64 s.m.move)∧wq.cell? ⟨sb,73,none⟩=some (.int .i64 s.m.move)) ?_
   iterate 11 (first|refine Ai ?_|refine An hS ?_)
   go_simp
   iterate 1 (first|refine Ai ?_|refine An hS ?_)
   refine Aq fun K hK=>?_;go_simp
   refine(Cw _ _ _ _ H.out.drew _).mono ?_;rintro e w5 ⟨rfl,rfl⟩;rw[HH.out];dsimp only;refine Aj hK ?_;clear hK K
   iterate 1 (first|refine Ai ?_|refine An hS ?_)
   refine Ah ?_;go_wp2_with fail
   refine(Lm _ _ _ _ H.out.drew i v hil).mono ?_;intro e w9 hp;have HP:=Aa (hp.from_ (Fr.refl _ w).drew);obtain⟨rfl,_⟩:=hp;go_wp2;go_end0;rw[HQ.out];exact HP.out
  ·have hh':has s.m x=false:=by simpa using hh
   have HQ:=Aa (show Zbx s x v=s by unfold Zbx;rw[if_neg (fun e=>hh e.2)]);have HH:=Aa hh';clear hh hh' hlm;go_enter Tryz.func143,Tryz.ntmps143;go_wp2_with fail
   have hS:w.drew.cell? ⟨sb,72,none⟩=some (.int .i64 s.m.move)∧w.drew.cell? ⟨sb,73,none⟩=some (.int .i64 s.m.move):=⟨c72,c73⟩;refine Bl [12] [3,7] [] 14 (fun wq:World=>wq.cell? ⟨sb,72,none⟩=some (.int .i64 s.m.move)∧wq.cell? ⟨sb,73,none⟩=some (.int .i64 s.m.move)) ?_
   iterate 11 (first|refine Ai ?_|refine An hS ?_)
   go_simp
   iterate 1 (first|refine Ai ?_|refine An hS ?_)
   refine Aq fun K hK=>?_;go_simp
   refine(Cw _ _ _ _ H.out.drew _).mono ?_;rintro e w5 ⟨rfl,rfl⟩;rw[HH.out];dsimp only;refine Aj hK ?_;clear hK K
   iterate 1 (first|refine Ai ?_|refine An hS ?_)
   refine Ah ?_;go_wp2;go_end0;rw[HQ.out];exact .here H.out.drew (Fr.refl _ w).drew
 ·have hb:(s.m.look==s.m.move)=false:=by simpa using hlm
  have HQ:=Aa (show Zbx s x v=s by unfold Zbx;rw[if_neg (fun e=>hlm e.1)]);clear hlm;go_enter Tryz.func143,Tryz.ntmps143;go_wp2_with fail
  have hS:w.drew.cell? ⟨sb,72,none⟩=some (.int .i64 s.m.look)∧w.drew.cell? ⟨sb,73,none⟩=some (.int .i64 s.m.move):=⟨c72,c73⟩;refine Bl [] [3,7] [] 14 (fun wq:World=>wq.cell? ⟨sb,72,none⟩=some (.int .i64 s.m.look)∧wq.cell? ⟨sb,73,none⟩=some (.int .i64 s.m.move)) ?_
  iterate 10 (first|refine Ai ?_|refine An hS ?_)
  go_simp;refine Bh rfl rfl rfl (by kernel_rfl) (fun _ _ _ h=>h) ?_;refine Bh rfl rfl rfl (by kernel_rfl) (fun _ _ _ h=>h) ?_;refine Bh rfl rfl rfl (by kernel_rfl) (fun _ _ _ h=>h) ?_
  iterate 1 (first|refine Ai ?_|refine An hS ?_)
  refine Ah ?_;go_wp2;go_end0;rw[HQ.out];exact .here H.out.drew (Fr.refl _ w).drew
theorem Ss (w:World) (sb:Nat) (L:SLay) (s:Sr.St) (h:SrL w sb L s) (x y:Int):Calls Tryz.prog 145 #[.pointer (some ⟨sb,0,none⟩),.int .i64 x,.int .i64 y] w (SPost w sb L (Gg s x y)):=by
 have H:=Aa h;have hs1:=h.blk.lt;have hcl:=h.ok.m.curl;have c72:=h.c72;have c73:=h.c73;clear h;by_cases hlm:s.m.look=s.m.move
 ·rw[hlm] at c72;by_cases hh:has s.m x=true
  ·have HH:=Aa hh;by_cases hy:has s.m y=true
   ·have HY:=Aa hy;obtain⟨i,rfl,hil⟩:=Fq hh;obtain⟨j,rfl,hjl⟩:=Fq hy;have HQ:=Aa (show Gg s i j = { s with m:=goes s.m j s.m.move (Az s.m.move (s.m.cur.getD i (0,0))) } by unfold Gg;rw[if_pos ⟨hlm,hh,hy⟩,Int.toNat_natCast,Int.toNat_natCast]);have HPUT:=Aa (fun (W:World) (hW:SrL W sb L s) (v:Int)=>Lm W sb L s hW j v hjl);clear hh hlm hy;go_enter Tryz.func145,Tryz.ntmps145;go_wp2_with fail
    have hS:w.drew.cell? ⟨sb,72,none⟩=some (.int .i64 s.m.move)∧w.drew.cell? ⟨sb,73,none⟩=some (.int .i64 s.m.move):=⟨c72,c73⟩;refine Bl [12,17] [3,7] [] 19 (fun wq:World=>wq.cell? ⟨sb,72,none⟩=some (.int .i64 s.m.move)∧wq.cell? ⟨sb,73,none⟩=some (.int .i64 s.m.move)) ?_
    iterate 11 (first|refine Ai ?_|refine An hS ?_)
    go_simp
    iterate 1 (first|refine Ai ?_|refine An hS ?_)
    refine Aq fun K hK=>?_;go_simp
    refine(Cw _ _ _ _ H.out.drew _).mono ?_;rintro e w5 ⟨rfl,rfl⟩;rw[HH.out];dsimp only;refine hK _ _ (fun _=>hS) ?_;clear hK K
    iterate 3 (first|refine Ai ?_|refine An hS ?_)
    go_simp
    iterate 1 (first|refine Ai ?_|refine An hS ?_)
    refine Aq fun K hK=>?_;go_simp
    refine(Cw _ _ _ _ H.out.drew _).mono ?_;rintro e w5 ⟨rfl,rfl⟩;rw[HY.out];dsimp only;refine Aj hK ?_;clear hK K
    iterate 1 (first|refine Ai ?_|refine An hS ?_)
    refine Ah ?_;clear hS c72 c73;have H1:=Aa H.out.drew;have F1:=Aa (Fr.refl (SrS L sb) w).drew;have hz:sb<w.drew.heap.size:=hs1;go_wp2_with fail
    generalize w.drew=W at *;have hmv:=H.out.ok.m.move;obtain⟨g,c,x,hv,hc1,hx,hg,hcell,_⟩:=H1.out.pt (p:=i) hil;have hxk:K32 (Az s.m.move x):=by
     have:=H.out.ok.m.cur x (List.mem_of_getElem? hx);unfold Az;split
     ·exact this.2
     ·exact this.1
    have c65:=H1.out.c65;rw[hv] at c65;have c73:=H1.out.c73;have cp:=hcell s.m.move;have HGX:=Aa (Bs (d:=(0,0)) hx);unfold K32 at hxk;clear hcell hv hx hc1;generalize hm:s.m.move=mv at *;have HM:=Aa hm;clear hm;generalize hd':(if mv=1 then 1 else 0:Nat)=dd at *;have HD:=Aa hd';clear hd';rw[HGX.out] at HQ;have hS:W.drew.cell? ⟨sb,65,none⟩=some (.slice (some ⟨g,0,none⟩) s.m.cur.length c)∧W.drew.cell? ⟨sb,73,none⟩=some (.int .i64 mv)∧W.drew.cell? ⟨g,i*2+dd,none⟩=some (.int .i64 (Az mv x)):=⟨c65,c73,cp⟩;refine Bl [13,16] [6,12,15] [] 17 (fun wq:World=>wq.cell? ⟨sb,65,none⟩=some (.slice (some ⟨g,0,none⟩) s.m.cur.length c)∧wq.cell? ⟨sb,73,none⟩=some (.int .i64 mv)∧wq.cell? ⟨g,i*2+dd,none⟩=some (.int .i64 (Az mv x))) ?_
    iterate 13 (first|refine Ai ?_|refine An hS ?_)
    refine Aq fun K hK=>?_;go_simp
    refine(Cc _ _ _ _ hmv.1 hmv.2).mono ?_;rintro e w5 ⟨rfl,rfl⟩;rw[HD.out];dsimp only;refine hK _ _ (fun _=>hS) ?_;clear hK K
    iterate 2 (first|refine Ai ?_|refine An hS ?_)
    refine Aq fun K hK=>?_;go_simp
    refine(HPUT.out W.drew H1.out.drew _).mono ?_;intro e w9 hp;have HP:=Aa (hp.from_ F1.out.drew);obtain⟨rfl,_⟩:=hp;dsimp only;refine Aj hK ?_;clear hK K;refine Ah ?_;go_wp2;go_end0;rw[HQ.out];exact HM.out ▸ HP.out
   ·have hy':has s.m y=false:=by simpa using hy
    have HQ:=Aa (show Gg s x y=s by unfold Gg;rw[if_neg (fun e=>hy e.2.2)]);have HY:=Aa hy';clear hh hlm hy hy';go_enter Tryz.func145,Tryz.ntmps145;go_wp2_with fail
    have hS:w.drew.cell? ⟨sb,72,none⟩=some (.int .i64 s.m.move)∧w.drew.cell? ⟨sb,73,none⟩=some (.int .i64 s.m.move):=⟨c72,c73⟩;refine Bl [12,17] [3,7] [] 19 (fun wq:World=>wq.cell? ⟨sb,72,none⟩=some (.int .i64 s.m.move)∧wq.cell? ⟨sb,73,none⟩=some (.int .i64 s.m.move)) ?_
    iterate 11 (first|refine Ai ?_|refine An hS ?_)
    go_simp
    iterate 1 (first|refine Ai ?_|refine An hS ?_)
    refine Aq fun K hK=>?_;go_simp
    refine(Cw _ _ _ _ H.out.drew _).mono ?_;rintro e w5 ⟨rfl,rfl⟩;rw[HH.out];dsimp only;refine hK _ _ (fun _=>hS) ?_;clear hK K
    iterate 3 (first|refine Ai ?_|refine An hS ?_)
    go_simp
    iterate 1 (first|refine Ai ?_|refine An hS ?_)
    refine Aq fun K hK=>?_;go_simp
    refine(Cw _ _ _ _ H.out.drew _).mono ?_;rintro e w5 ⟨rfl,rfl⟩;rw[HY.out];dsimp only;refine Aj hK ?_;clear hK K
    iterate 1 (first|refine Ai ?_|refine An hS ?_)
    refine Ah ?_;go_wp2;go_end0;rw[HQ.out];exact .here H.out.drew (Fr.refl _ w).drew
  ·have hh':has s.m x=false:=by simpa using hh
   have HQ:=Aa (show Gg s x y=s by unfold Gg;rw[if_neg (fun e=>hh e.2.1)]);have HH:=Aa hh';clear hh hh' hlm;go_enter Tryz.func145,Tryz.ntmps145;go_wp2_with fail
   have hS:w.drew.cell? ⟨sb,72,none⟩=some (.int .i64 s.m.move)∧w.drew.cell? ⟨sb,73,none⟩=some (.int .i64 s.m.move):=⟨c72,c73⟩;refine Bl [12] [3,7] [] 19 (fun wq:World=>wq.cell? ⟨sb,72,none⟩=some (.int .i64 s.m.move)∧wq.cell? ⟨sb,73,none⟩=some (.int .i64 s.m.move)) ?_
   iterate 11 (first|refine Ai ?_|refine An hS ?_)
   go_simp
   iterate 1 (first|refine Ai ?_|refine An hS ?_)
   refine Aq fun K hK=>?_;go_simp
   refine(Cw _ _ _ _ H.out.drew _).mono ?_;rintro e w5 ⟨rfl,rfl⟩;rw[HH.out];dsimp only;refine Aj hK ?_;clear hK K
   iterate 2 (first|refine Ai ?_|refine An hS ?_)
   go_simp;refine Bh rfl rfl rfl (by kernel_rfl) (fun _ _ _ h=>h) ?_;refine Bh rfl rfl rfl (by kernel_rfl) (fun _ _ _ h=>h) ?_;refine Bh rfl rfl rfl (by kernel_rfl) (fun _ _ _ h=>h) ?_
   iterate 1 (first|refine Ai ?_|refine An hS ?_)
   refine Ah ?_;go_wp2;go_end0;rw[HQ.out];exact .here H.out.drew (Fr.refl _ w).drew
 ·have hb:(s.m.look==s.m.move)=false:=by simpa using hlm
  have HQ:=Aa (show Gg s x y=s by unfold Gg;rw[if_neg (fun e=>hlm e.1)]);clear hlm;go_enter Tryz.func145,Tryz.ntmps145;go_wp2_with fail
  have hS:w.drew.cell? ⟨sb,72,none⟩=some (.int .i64 s.m.look)∧w.drew.cell? ⟨sb,73,none⟩=some (.int .i64 s.m.move):=⟨c72,c73⟩;refine Bl [] [3,7] [] 19 (fun wq:World=>wq.cell? ⟨sb,72,none⟩=some (.int .i64 s.m.look)∧wq.cell? ⟨sb,73,none⟩=some (.int .i64 s.m.move)) ?_
  iterate 10 (first|refine Ai ?_|refine An hS ?_)
  go_simp;refine Bh rfl rfl rfl (by kernel_rfl) (fun _ _ _ h=>h) ?_;refine Bh rfl rfl rfl (by kernel_rfl) (fun _ _ _ h=>h) ?_;refine Bh rfl rfl rfl (by kernel_rfl) (fun _ _ _ h=>h) ?_
  iterate 2 (first|refine Ai ?_|refine An hS ?_)
  go_simp;refine Bh rfl rfl rfl (by kernel_rfl) (fun _ _ _ h=>h) ?_;refine Bh rfl rfl rfl (by kernel_rfl) (fun _ _ _ h=>h) ?_;refine Bh rfl rfl rfl (by kernel_rfl) (fun _ _ _ h=>h) ?_
  iterate 1 (first|refine Ai ?_|refine An hS ?_)
  refine Ah ?_;go_wp2;go_end0;rw[HQ.out];exact .here H.out.drew (Fr.refl _ w).drew
theorem s40 (x:Int) (w:World):Calls Tryz.prog 105 #[.int .i64 x] w fun e w'=>e=.returned (.int .i64 x)∧w=w':=by
 go_enter Tryz.func105,Tryz.ntmps105;go_wp2;go_ret;exact⟨rfl,rfl⟩
theorem s5 (x y:Int) (w:World) (hx:K32 x) (hy:K32 y):Calls Tryz.prog 107 #[.int .i64 x,.int .i64 y] w fun e w'=>e=.returned (.int .i64 (x+y))∧w=w':=by
 unfold K32 at hx hy;go_enter Tryz.func107,Tryz.ntmps107;go_wp2;go_ret;exact⟨rfl,rfl⟩
theorem s6 (x y:Int) (w:World) (hx:K32 x) (hy:K32 y):Calls Tryz.prog 108 #[.int .i64 x,.int .i64 y] w fun e w'=>e=.returned (.int .i64 (x-y))∧w=w':=by
 unfold K32 at hx hy;go_enter Tryz.func108,Tryz.ntmps108;go_wp2;go_ret;exact⟨rfl,rfl⟩
theorem s7 (x y:Int) (w:World) (hx:K32 x) (hy:K32 y):Calls Tryz.prog 109 #[.int .i64 x,.int .i64 y] w fun e w'=>e=.returned (.int .i64 (k32 (x*y / 64)))∧w=w':=by
 unfold K32 at hx hy;have HM:=Aa (Zca hx hy);go_enter Tryz.func109,Tryz.ntmps109;go_wp2_with fail
 refine(Cf _ _).mono ?_;rintro e w1 ⟨rfl,rfl⟩;go_wp2;go_ret;exact⟨Bi (by rw[HM.out]),rfl⟩
theorem s8 (x y:Int) (w:World) (hx:K32 x) (_hy:K32 y):Calls Tryz.prog 110 #[.int .i64 x,.int .i64 y] w fun e w'=>e=.returned (.int .i64 (k32 (divd (64*x) y)))∧w=w':=by
 unfold K32 at hx _hy;go_enter Tryz.func110,Tryz.ntmps110;go_wp2_with fail
 refine(Fh _ _ _).mono ?_;rintro e w1 ⟨rfl,rfl⟩;go_wp2_with fail
 refine(Cf _ _).mono ?_;rintro e w1 ⟨rfl,rfl⟩;go_wp2;go_ret;have hd:=Xx (a:=64*x) (b:=y) (by omega) (by omega);exact⟨Bi (by rw[Gf (by omega) (by omega)]),rfl⟩
theorem s9 (x:Int) (w:World) (hx:K32 x):Calls Tryz.prog 112 #[.int .i64 x] w fun e w'=>e=.returned (.int .i64 (-x))∧w=w':=by
 unfold K32 at hx;go_enter Tryz.func112,Tryz.ntmps112;go_wp2;go_ret;exact⟨rfl,rfl⟩
theorem s10 (x:Int) (w:World) (hx:K32 x):Calls Tryz.prog 113 #[.int .i64 x] w fun e w'=>e=.returned (.int .i64 (max x (-x)))∧w=w':=by
 unfold K32 at hx;go_enter Tryz.func113,Tryz.ntmps113;go_wp2
 all_goals
  go_ret;exact⟨Bi (by omega),rfl⟩
theorem s11 (x y:Int) (w:World) (_hx:K32 x) (_hy:K32 y):Calls Tryz.prog 114 #[.int .i64 x,.int .i64 y] w fun e w'=>e=.returned (.int .i64 (min x y))∧w=w':=by
 unfold K32 at _hx _hy;go_enter Tryz.func114,Tryz.ntmps114;go_wp2
 all_goals
  go_ret;exact⟨Bi (by omega),rfl⟩
theorem s12 (x y:Int) (w:World) (_hx:K32 x) (_hy:K32 y):Calls Tryz.prog 115 #[.int .i64 x,.int .i64 y] w fun e w'=>e=.returned (.int .i64 (max x y))∧w=w':=by
 unfold K32 at _hx _hy;go_enter Tryz.func115,Tryz.ntmps115;go_wp2
 all_goals
  go_ret;exact⟨Bi (by omega),rfl⟩
theorem s13 (x:Int) (w:World) (_hx:K32 x):Calls Tryz.prog 116 #[.int .i64 x] w fun e w'=>e=.returned (.int .i64 (Bp 4 x))∧w=w':=by
 unfold K32 at _hx;go_enter Tryz.func116,Tryz.ntmps116;go_wp2_with fail
 refine(Df _ _ _).mono ?_;rintro e w1 ⟨rfl,rfl⟩;go_wp2;go_ret;exact⟨rfl,rfl⟩
theorem s14 (x:Int) (w:World) (_hx:K32 x):Calls Tryz.prog 118 #[.int .i64 x] w fun e w'=>e=.returned (.int .i64 (Bp 5 x))∧w=w':=by
 unfold K32 at _hx;go_enter Tryz.func118,Tryz.ntmps118;go_wp2_with fail
 refine(Df _ _ _).mono ?_;rintro e w1 ⟨rfl,rfl⟩;go_wp2;go_ret;exact⟨rfl,rfl⟩
theorem s16 (x y:Int) (w:World) (_hx:K32 x) (_hy:K32 y):Calls Tryz.prog 120 #[.int .i64 x,.int .i64 y] w fun e w'=>e=.returned (.int .i64 (truth (decide (x<y))))∧w=w':=by
 unfold K32 at _hx _hy;go_enter Tryz.func120,Tryz.ntmps120;go_wp2_with fail
 refine(Du _ _).mono ?_;rintro e w1 ⟨rfl,rfl⟩;go_wp2;go_ret;exact⟨Bi (by first|rfl|(congr 1;simp)),rfl⟩
theorem s17 (x y:Int) (w:World) (_hx:K32 x) (_hy:K32 y):Calls Tryz.prog 122 #[.int .i64 x,.int .i64 y] w fun e w'=>e=.returned (.int .i64 (truth (decide (x≤y))))∧w=w':=by
 unfold K32 at _hx _hy;go_enter Tryz.func122,Tryz.ntmps122;go_wp2_with fail
 refine(Du _ _).mono ?_;rintro e w1 ⟨rfl,rfl⟩;go_wp2;go_ret;exact⟨Bi (by first|rfl|(congr 1;simp)),rfl⟩
theorem s18 (x y:Int) (w:World) (_hx:K32 x) (_hy:K32 y):Calls Tryz.prog 123 #[.int .i64 x,.int .i64 y] w fun e w'=>e=.returned (.int .i64 (truth (decide (x=y))))∧w=w':=by
 unfold K32 at _hx _hy;go_enter Tryz.func123,Tryz.ntmps123;go_wp2_with fail
 refine(Du _ _).mono ?_;rintro e w1 ⟨rfl,rfl⟩;go_wp2;go_ret;exact⟨Bi (by first|rfl|(congr 1;simp)),rfl⟩
theorem s19 (x:Int) (w:World) (_hx:K32 x):Calls Tryz.prog 124 #[.int .i64 x] w fun e w'=>e=.returned (.int .i64 (truth (decide (x=0))))∧w=w':=by
 unfold K32 at _hx;go_enter Tryz.func124,Tryz.ntmps124;go_wp2_with fail
 refine(Du _ _).mono ?_;rintro e w1 ⟨rfl,rfl⟩;go_wp2;go_ret;exact⟨Bi (by first|rfl|(congr 1;simp)),rfl⟩
theorem s20 (x y:Int) (w:World) (hx:K32 x) (hy:K32 y):Calls Tryz.prog 125 #[.int .i64 x,.int .i64 y] w fun e w'=>e=.returned (.int .i64 (truth (decide (x≠0∧y≠0))))∧w=w':=by
 unfold K32 at hx hy;rcases Decidable.em (x=0) with h|h <;> rcases Decidable.em (y=0) with h'|h'
 all_goals
  have HV:=Aa (show truth (decide (x≠0∧y≠0))=truth (decide (x≠0) && decide (y≠0)) by simp)
  first|subst h|have b1:(x !=0)=true:=by simp[h]
  first|subst h'|have b2:(y !=0)=true:=by simp[h']
  go_enter Tryz.func125,Tryz.ntmps125;go_wp2_with fail
  refine(Du _ _).mono ?_;rintro e w1 ⟨rfl,rfl⟩;go_wp2;go_ret;rw[HV.out];refine⟨Bi ?_,rfl⟩
  simp_all
theorem s21 (x y:Int) (w:World) (hx:K32 x) (hy:K32 y):Calls Tryz.prog 126 #[.int .i64 x,.int .i64 y] w fun e w'=>e=.returned (.int .i64 (truth (decide (x≠0∨y≠0))))∧w=w':=by
 unfold K32 at hx hy;rcases Decidable.em (x=0) with h|h <;> rcases Decidable.em (y=0) with h'|h'
 all_goals
  have HV:=Aa (show truth (decide (x≠0∨y≠0))=truth (decide (x≠0) || decide (y≠0)) by simp)
  first|subst h|have b1:(x !=0)=true:=by simp[h]
  first|subst h'|have b2:(y !=0)=true:=by simp[h']
  go_enter Tryz.func126,Tryz.ntmps126;go_wp2_with fail
  refine(Du _ _).mono ?_;rintro e w1 ⟨rfl,rfl⟩;go_wp2;go_ret;rw[HV.out];refine⟨Bi ?_,rfl⟩
  simp_all
end Go.Proofs.YtnhebmgibiomnaaGreat

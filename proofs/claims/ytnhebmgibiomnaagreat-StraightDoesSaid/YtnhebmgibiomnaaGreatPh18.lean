import Derived.Test.YtnhebmgibiomnaaGreatPh17
set_option linter.unusedVariables false
set_option linter.unusedSimpArgs false
set_option maxRecDepth 100000
set_option maxHeartbeats 8000000
namespace Go.Proofs.YtnhebmgibiomnaaGreat
section
open Go.RowKit Mc
def PlI (l:List (Int×Int)) (fs:List Bd.aa) (ps:List Bu.aq) (w:World) (i:Value) (W:World):Prop :=
 ∃(j:Nat) (vs:Value),j≤l.length∧i=Aj (j:Int)∧eM w l.length (Bu.bJ fs ps (l.take j) 0 (Bu.start l.length)) vs W
def PlJ (w:World)(n:Nat)(s:Bu.gh)(vs:Value)(i:Value)(W:World):Prop :=
 ∃(k:Nat),k≤s.steps.length∧i=Aj (k:Int)∧eM w n { s with steps:=bm s.index s.steps k } vs W
theorem Zbr:(Tryz.prog.info? 145).map (fun i=>(i.zero,i.size,i.bytes))=some (some (.agg #[Aj 0,Aj 0,Aj 0,Aj 0]),4,32):=by kernel_rfl
theorem Lz (l:List (Int×Int)) (fs:List Bd.aa) (ps:List Bu.aq) (w:World) (B:Nat) (Al Af Ap:Option Addr) (cl cf cp:Nat) (hB:B≤w.heap.size) (hl:aE w B 2 Al l.length (bq l)) (hf:aE w B 4 Af fs.length (Cp fs)) (hp:af (Kz 0) 89 w B Ap ps) (c9:Bu.fB fs ps ps.length l) (i2:ps.length≤fs.length) (hn:l.length≤100000) (a1:fs.length≤1000000) (hm:fs.all Bd.cw=true) (hs:∀p∈ps,0≤p.size∧p.size≤20001) :
  Calls Tryz.prog 34 #[.slice Al l.length cl,.slice Af fs.length cf,.slice Ap ps.length cp] w fun e w'=>∃v,e=.returned (.agg #[v,Aj (Bu.aY l fs ps).size])∧Below w.heap.size w w'∧w'.ownsRow w.heap.size 145 4 v (Bu.aY l fs ps).steps.length (Dk (Bu.aY l fs ps).steps):=by
 have HL:=Aq hl;have HF:=Aq hf;have V:=Aq hp;have z8:=Aq c9;have HM:=Aq hm;have HS:=Aq hs;have am:∀W:World,(Instr.makeSlice 22 (Aj ((l.length:Int)+1)) (Aj ((l.length:Int)+1))).run Tryz.prog W=.ok (.slice (some ⟨W.heap.size,0,none⟩) (l.length+1) (l.length+1)) (W.alloc (.cells (ae (List.replicate (l.length+1) 0)).toArray 3)):=fun W=>by
  have:=Jv (l.length+1) (by omega) W
  rwa [show ((l.length+1:Nat):Int)=(l.length:Int)+1 by omega]at this
 have g8:∀W:World,(Instr.makeSlice 142 (Aj ((l.length:Int)+1)) (Aj ((l.length:Int)+1))).run Tryz.prog W=.ok (.slice (some ⟨W.heap.size,0,none⟩) (l.length+1) (l.length+1)) (W.alloc (.cells (Hv (List.replicate (l.length+1) false)).toArray 4)):=fun W=>by
  have:=Xh (l.length+1) (by omega) W
  rwa [show ((l.length+1:Nat):Int)=(l.length:Int)+1 by omega]at this
 have g4:IntKind.i64.wrap ((l.length:Int)+1)=(l.length:Int)+1:=Do _ (by omega);obtain⟨i0,b3,a7,a9,b5⟩:=Eu Zbr;clear hl hf hp c9 hm hs;go_enter Tryz.func34,Tryz.ntmps34;go_wp2_with fail
 go_loopw [34] (fun i W=>PlI l fs ps w i W) (fun i _=>l.length-(intOf i).toNat)
 case atStart=>exact⟨0,_,By _,rfl,eM.start w l.length (by omega)⟩
 case round =>
  obtain⟨j,vs,hj,rfl,F⟩:=hrel;by_cases e3:j<l.length
  ·obtain⟨x,hx⟩:∃x,l[j]?=some x:=⟨_,Bg e3⟩;have c8:=Bu.gS fs ps l hx (Bu.start l.length);have x9:=Bu.gK fs ps l ps.length z8.o j hj;generalize Bu.bJ fs ps (l.take j) 0 (Bu.start l.length)=s at *;obtain⟨b,off,rfl,hb,a4⟩:=HL.o.2 (by omega);obtain⟨y0,y1⟩:=Fy hx;have d0:=(F.below.cell (p:=⟨b,off+2*j,none⟩) (by show b<w.heap.size;omega)).trans (a4 _ _ y0);have d1:=(F.below.cell (p:=⟨b,off+(2*j+1),none⟩) (by show b<w.heap.size;omega)).trans (a4 _ _ y1);rw[oB 2 j]at d0 d1;rw[←Lb]at d1;have i1:(j:Int)<l.length:=by omega
   have g2:(j:Int)<(l.length:Int)+1:=by omega
   have k0:=F.aR;obtain⟨c,r,z,_,_,h4,N⟩:=Ce k0 (by omega);obtain⟨rfl,rfl⟩:w.heap.size+1+1=c∧l.length+1=r:=by simpa using z
   have e0:=N j _ (Fi (by rw[x9.aR];omega));have e9:b<wr.heap.size:=by have:=F.below.size;omega
   have HW:=Aq F;have f:=Aq x9;have v4:=Aq c8;clear F x9 c8 N z a4 y0 y1 k0;cases u2:s.aR.getD j false
   ·rw[u2]at e0;go_wp2_with fail
    go_roundw
    case rel =>
     refine⟨j+1,vs,by omega,by simp,?_⟩;rw[v4.o,show Bu.bu fs ps j x s=s by unfold Bu.bu;rw[if_pos u2]];exact HW.o.alloc _
    case measure=>simp[intOf];omega
   ·rw[u2]at e0;obtain⟨op,a⟩:=x;simp only at d0 d1;obtain⟨O,cv,a8,e5,_⟩:=Ba HW.o.steps;subst a8;have g6:=f.o.steps;have cY:=HW.o.box.lt;have c0:=HW.o.box.cell 0;have c1:=HW.o.box.cell 1;simp only[Az,Ay,Bc]at c0 c1;obtain⟨_,v5,ci,z4⟩:=Bf HW.o.index (g:=w.heap.size+1+1+1+1) rfl;have v3:=z4.frozen j;obtain⟨c,r,z,_,_,_,u0⟩:=Ce HW.o.index (by omega);obtain⟨rfl,rfl⟩:w.heap.size+1+1+1+1=c∧l.length+1=r:=by simpa using z
    have i0:=u0 j _ (Bg (by rw[Pb,f.o.index];omega));clear u0 z;have v1:=Bx hx;have y9:=Aq ((HW.o.iz (i:=j) (by rw[f.o.index];omega) s.steps.length).alloc (.cells #[Aj op,Aj a] 96));have y4:=Aq (Wt op a ps _ B Ap cp (Ex hB y9.o.below.size) (V.o.below y9.o.below hB) (by omega) (fun h=>z8.o.ao _ v1 h) HS.o);have b9:=z8.o.az j _ hx;have v9:=z8.o.ahead _ v1;simp only at v9;have v0:=z8.o.kh _ v1;have lM:=z8.o.ff _ v1;have n0:=fun (W:World) (h:aH W wr.heap.size 96 #[Aj op,Aj a])=>(h.cell 0:W.cell? ⟨wr.heap.size,0,none⟩=_)
    have n1:=fun (W:World) (h:aH W wr.heap.size 96 #[Aj op,Aj a])=>(h.cell 1:W.cell? ⟨wr.heap.size,1,none⟩=_)
    have z3:=Aq (qw (wr.setCell ⟨w.heap.size+1+1+1+1,j,none⟩ (Aj (s.steps.length:Int))) 96 #[Aj op,Aj a] (g:=wr.heap.size) (by simp[World.setCell]));have h9:=Aq n0;have u5:=Aq n1;clear n0 n1;obtain⟨t,ht⟩:∃t,t=j+1+Bu.jump (op,a):=⟨_,rfl⟩;have HT:=Aq ht;have g7:t≤l.length:=by rw[ht];exact b9
    have a0:=Aq (z8.o.ao _ v1);obtain⟨G,hG⟩:∃G,G=Bu.bZ (op,a) fs:=⟨_,rfl⟩;rw[←hG]at v0;have z6:=Aq hG;have v8:=Aq v0;obtain⟨Z,hZ⟩:∃Z,Z=Bu.sizeOf (op,a) ps:=⟨_,rfl⟩;rw[←hZ]at y4 lM;have x6:=Aq hZ;have c6:=Aq lM;clear b9 v0 lM hx v1 ht hZ hG;obtain⟨L,b6⟩:∃L,L=j+1:=⟨_,rfl⟩;have g9:(j:Int)+1=(L:Int):=by omega
    have R:=Aq b6;clear b6;by_cases v2:op=35∨op=36
    ·have hz:0<Z:=by
      rw[x6.o];unfold Bu.sizeOf;rw[if_neg (by simp only;omega),if_neg (by simp only;omega),if_neg (by simp only;omega)]
      decide
     have g3:IntKind.i64.wrap ((L:Int)+a)=(t:Int):=by
      have h1:=HT.o;have h2:=R.o;have h3:=v9 v2;unfold Bu.jump at h1;rw[if_pos v2]at h1;simp only at h1;exact(Do _ (by omega)).trans (by omega)
     obtain⟨zz,z1⟩:∃x,x=min (s.size+Z) 20001:=⟨_,rfl⟩;have a2:=Aq z1;have d8:(if (20001:Int)<s.size+Z then(20001:Int) else s.size+Z)=zz:=by rw[z1];omega
     have f3:(if s.size+Z<(20001:Int) then s.size+Z else(20001:Int))=zz:=by rw[z1];omega
     have e8:IntKind.i64.wrap (s.size+Z)=s.size+Z:=Do _ (by have:=c6.o;have:=f.o.size;omega);clear z1;by_cases z0:op=35
     ·have c4:(op==35)=true:=by simp only[beq_iff_eq];exact z0
      have d2:=Aq z0;clear z0 v2 v9;go_wp2_with (refine y4.o.mono ?_;rintro e P⟨rfl,h7⟩)
      have x7:wr.heap.size<((wr.setCell ⟨w.heap.size+1+1+1+1,j,none⟩ (Aj (s.steps.length:Int))).alloc (.cells #[Aj op,Aj a] 96)).heap.size:=by simp[World.setCell]
      have hK:=Aq (y9.o.kK h7);have h0:Hid (aH P wr.heap.size 96 #[Aj op,Aj a]):=Aq ((h7.block _ x7).trans z3.o);have Q:=h9.o _ h0.o;have D:=u5.o _ h0.o;have x3:=hK.o.box.cell 0;simp only[Az,Ay,Bc]at Q D x3;obtain⟨_,E,ch,n⟩:=Bf hK.o.aC (g:=w.heap.size+1+1+1) rfl;obtain⟨c,r,z,_,_,_,m⟩:=Ce hK.o.aC (by omega);obtain⟨rfl,rfl⟩:w.heap.size+1+1+1=c∧l.length+1=r:=by simpa using z
      have J:=m j _ (Ck (l:=s.aC) (i:=j) (v:=s.aC.getD j 0) (by rw[Bn,Bg (by rw[f.o.aC];omega)];rfl));obtain⟨y,x4⟩:∃x,x=s.aC.getD j 0:=⟨_,rfl⟩;rw[←x4]at J;have h8:=Aq x4;clear x4;have C:wr.heap.size<P.heap.size:=h0.o.lt;have z5:=hK.o.box.lt;clear m z n h7 z3 y9 y4 e0 d0 d1 c0 c1 i0 v3 z4 x7 v5 h4;have HA:=Aq (hK.o.drew.alloc (.cells #[Aj op,Aj a,Aj y,Aj (t:Int)] 145));have z9:Hid (Dk (s.steps++[⟨op,a,y,t⟩])=Dk s.steps++[Aj op,Aj a,Aj y,Aj (t:Int)]):=Aq (Jf s.steps [⟨op,a,y,t⟩]);have b8:=Aq ((Cb P.drew (.cells #[Aj op,Aj a,Aj y,Aj (t:Int)] 145) ⟨wr.heap.size,0,none⟩ C).trans Q);have z7:(P.drew.alloc (.cells #[Aj op,Aj a,Aj y,Aj (t:Int)] 145)).cell? ⟨w.heap.size+1,0,none⟩=some (.slice O s.steps.length cv)∧(P.drew.alloc (.cells #[Aj op,Aj a,Aj y,Aj (t:Int)] 145)).cell? ⟨wr.heap.size,0,none⟩=some (Aj op)∧(P.drew.alloc (.cells #[Aj op,Aj a,Aj y,Aj (t:Int)] 145)).cell? ⟨wr.heap.size,1,none⟩=some (Aj a)∧(P.drew.alloc (.cells #[Aj op,Aj a,Aj y,Aj (t:Int)] 145)).cell? ⟨w.heap.size+1+1+1,j,none⟩=some (Aj y) :=
       ⟨(Cb _ _ _ z5).trans x3,(Cb _ _ _ C).trans Q,(Cb _ _ _ C).trans D,(Cb _ _ _ E).trans J⟩
      have I:P.drew.cell? ⟨w.heap.size+1,0,none⟩=some (.slice O s.steps.length cv)∧P.drew.cell? ⟨wr.heap.size,0,none⟩=some (Aj op)∧P.drew.cell? ⟨wr.heap.size,1,none⟩=some (Aj a)∧P.drew.cell? ⟨w.heap.size+1+1+1,j,none⟩=some (Aj y):=⟨x3,Q,D,J⟩;refine Cr [9,10,12] [1,2,6] [9] 13 (fun wq:World=>wq.cell? ⟨w.heap.size+1,0,none⟩=some (.slice O s.steps.length cv)∧wq.cell? ⟨wr.heap.size,0,none⟩=some (Aj op)∧wq.cell? ⟨wr.heap.size,1,none⟩=some (Aj a)∧wq.cell? ⟨w.heap.size+1+1+1,j,none⟩=some (Aj y)) ?_
      iterate 9 (first|refine Be ?_|refine Bj I ?_)
      refine Bi fun K H=>?_;go_simp
      refine H _ _ (fun _=>z7) ?_;clear H K;refine Bi fun K H=>?_
      refine Hf _ rfl (.tmp 70) (.tmp 78) _ rfl 145 i0 _ 4 32 Tryz.underlying87 b3 a7 a9 b5 rfl (by decide) w.heap.size (.slice O s.steps.length cv) s.steps.length (Dk s.steps) rfl HA.o.steps HA.o.below.size _ _ 1 1 [Aj op,Aj a,Aj y,Aj (t:Int)] rfl (qB (cs:=[Aj op,Aj a,Aj y,Aj (t:Int)]) (qv _ _ _) 4 1 rfl) (by simp[Value.oneCell']) (by unfold maxLen;omega) (by omega) ?_;intro v' w6 x5 hg v7;rw[←z9.o,show s.steps.length+1=(s.steps++[⟨op,a,y,t⟩]:List Bu.PS).length by simp]at x5;have hW:=Aq (HA.o.fZ x5 hg);have Av:=HA.o.gN hg;have y5:=Aq (HA.o.gI ((aH.drew h0.o).alloc _) (by decide) hg);obtain⟨y3,y6,u1,_⟩:=Ba x5;rw[Bz,nr]at u1;have x0:=Av.cell 0;have xf:=Av.frozen 0;have xl:=Av.lt;simp only[Az,Ay]at x0;have y7:=Aq (y5.o.dE (p:=⟨w.heap.size+1,0,none⟩) (y5.o.dF Av (by decide)) v');subst u1;clear y5 Av x5 hg v7;refine Bh H ?_;clear H K
      iterate 1 (first|refine Be ?_|refine Bj I ?_)
      refine Bi fun K H=>?_;go_simp
      refine Bh H ?_;clear H K;refine Bb ?_;clear I z7 HA z9 hK h0 Q D x3 J z5 C E x0 xf xl;generalize w6.setCell ⟨w.heap.size+1,0,none⟩ (.slice y3 (s.steps.length+1) y6)=W at *;have y1:=hW.o.box.cell 1;have yf:=hW.o.box.frozen 1;have yl:=hW.o.box.lt;simp only[Az,Ay,Bc]at y1;go_wp2_with fail
      have V:=Aq (hW.o.im zz);have HI:=Aq (y7.o.dE (p:=⟨w.heap.size+1,1,none⟩) (y7.o.dF hW.o.box (by decide)) (Aj zz));clear hW y7 y1 yf yl;generalize W.setCell ⟨w.heap.size+1,1,none⟩ (Aj zz)=U at *;obtain⟨S,T⟩:∃S:Bu.gh,S = { s with index:=s.index.set j s.steps.length,steps:=s.steps++[⟨op,a,y,t⟩],size:=zz } := ⟨_,rfl⟩
      replace V:Hid (eM w l.length S (.slice y3 (s.steps.length+1) y6) U):=Aq (by rw[T];exact V.o)
      have w5:Hid (S.aC=s.aC):=Aq (by rw[T]);have t1:Hid (S.aR=s.aR):=Aq (by rw[T]);have u7:=Aq T;clear T;obtain⟨_,E,ch,n⟩:=Bf V.o.aC (g:=w.heap.size+1+1+1) rfl;obtain⟨_,u4,ck,A⟩:=Bf V.o.aR (g:=w.heap.size+1+1) rfl;obtain⟨c,r,z,_,_,_,m⟩:=Ce V.o.aC (by omega);obtain⟨rfl,rfl⟩:w.heap.size+1+1+1=c∧l.length+1=r:=by simpa using z
      have J:=m j (Aj y) (by rw[w5.o,h8.o];exact Ck (l:=s.aC) (i:=j) (v:=s.aC.getD j 0) (by rw[Bn,Bg (by rw[f.o.aC];omega)];rfl));have Q:=h9.o _ HI.o;have D:=u5.o _ HI.o;simp only[Az,Ay,Bc]at Q D;have C:wr.heap.size<U.heap.size:=HI.o.lt;have h6:=Aq (Ir op a fs U.drew B Af cf (Ex hB V.o.below.size) (HF.o.aQ fun q hq=>V.o.drew.below.cell (Dm hq hB)) a1 (fun h=>by have:=a0.o h;omega) HM.o);rw[←z6.o]at h6;clear m z n A;have I:U.drew.cell? ⟨wr.heap.size,0,none⟩=some (Aj op)∧U.drew.cell? ⟨wr.heap.size,1,none⟩=some (Aj a)∧U.drew.cell? ⟨w.heap.size+1+1+1,j,none⟩=some (Aj y):=⟨Q,D,J⟩;refine Cr [6] [3,4] [6] 9 (fun wq:World=>wq.cell? ⟨wr.heap.size,0,none⟩=some (Aj op)∧wq.cell? ⟨wr.heap.size,1,none⟩=some (Aj a)∧wq.cell? ⟨w.heap.size+1+1+1,j,none⟩=some (Aj y)) ?_
      iterate 6 (first|refine Be ?_|refine Bj I ?_)
      refine Bi fun K H=>?_;go_simp
      refine h6.o.mono ?_;rintro e w9⟨rfl,M⟩;have hS:=Aq (V.o.drew.kK M);have c':Hid (aH w9 wr.heap.size 96 #[Aj op,Aj a]):=Aq ((M.block _ C).trans HI.o.drew);have x8:w9.cell? ⟨wr.heap.size,0,none⟩=some (Aj op)∧w9.cell? ⟨wr.heap.size,1,none⟩=some (Aj a)∧w9.cell? ⟨w.heap.size+1+1+1,j,none⟩=some (Aj y):=⟨(M.cell (p:=⟨wr.heap.size,0,none⟩) C).trans Q,(M.cell (p:=⟨wr.heap.size,1,none⟩) C).trans D,(M.cell (p:=⟨w.heap.size+1+1+1,j,none⟩) E).trans J⟩;refine H _ _ (fun _=>x8) ?_;clear H K
      iterate 2 (first|refine Be ?_|refine Bj I ?_)
      refine Bb ?_;clear I x8 V HI h6 Q D J E u4 C M;have hk:=hS.o.aR;obtain⟨_,h4,ck,A⟩:=Bf hk (g:=w.heap.size+1+1) rfl;have fk:=A.frozen t;obtain⟨c,r,z,_,_,_,N⟩:=Ce hk (by omega);obtain⟨rfl,rfl⟩:w.heap.size+1+1=c∧l.length+1=r:=by simpa using z
      have xk:=N t _ (Fi (by rw[t1.o,f.o.aR];omega));clear N z;have h5:=hS.o.aC;obtain⟨_,E,ch,n⟩:=Bf h5 (g:=w.heap.size+1+1+1) rfl;have fh:=n.frozen t;obtain⟨c,r,z,_,_,_,m⟩:=Ce h5 (by omega);obtain⟨rfl,rfl⟩:w.heap.size+1+1+1=c∧l.length+1=r:=by simpa using z
      have xh:=m t _ (Ck (l:=S.aC) (i:=t) (v:=S.aC.getD t 0) (by rw[Bn,Bg (by rw[w5.o,f.o.aC];omega)];rfl));obtain⟨uh,hh⟩:∃u,u=S.aC.getD t 0:=⟨_,rfl⟩;rw[←hh]at xh;obtain⟨uk,g'⟩:∃u,u=S.aR.getD t false:=⟨_,rfl⟩;rw[←g']at xk;clear m z hh g' hk h5;have a5:IntKind.i64.wrap (y+G)=y+G:=Do _ (by have h1:=v8.o;have h2:=f.o.nG j;have h3:=h8.o;omega);have b4:(t:Int)<(l.length:Int)+1:=by omega
      have y8:=h9.o _ c'.o;simp only[Az,Ay]at y8;have HP:=Aq ((hS.o.dz (i:=t) (by rw[t1.o,f.o.aR];omega) true).e_ (i:=t) (by rw[w5.o,f.o.aC];omega) (y+G));have u9:=Aq (((c'.o.dE (p:=⟨w.heap.size+1+1,t,none⟩) (c'.o.dF A (by decide)) (.bool true))).dE (p:=⟨w.heap.size+1+1+1,t,none⟩) (by show wr.heap.size≠w.heap.size+1+1+1;exact c'.o.dF n (by decide)) (Aj (y+G)));clear A n;go_upto_region 20 with fail
      clear fk xk fh xh y8 c' hS h4 E;generalize (w9.setCell ⟨w.heap.size+1+1,t,none⟩ (.bool true)).setCell ⟨w.heap.size+1+1+1,t,none⟩ (Aj (y+G))=X at *;have u3:=h9.o _ u9.o;simp only[Az,Ay]at u3;obtain⟨_,h4,ck,A⟩:=Bf HP.o.aR (g:=w.heap.size+1+1) rfl;have fk:=A.frozen L;obtain⟨c,r,z,_,_,_,N⟩:=Ce HP.o.aR (by omega);obtain⟨rfl,rfl⟩:w.heap.size+1+1=c∧l.length+1=r:=by simpa using z
      have xk:=N L _ (Fi (by simp only[Dd];rw[t1.o,f.o.aR];have:=R.o;omega));obtain⟨_,E,ch,n⟩:=Bf HP.o.aC (g:=w.heap.size+1+1+1) rfl;have fh:=n.frozen L;have y2:L<(S.aC.set t (y+G)).length:=by simp only[Dd];rw[w5.o,f.o.aC];have:=R.o;omega
      obtain⟨c,r,z,_,_,_,m⟩:=Ce HP.o.aC (by omega);obtain⟨rfl,rfl⟩:w.heap.size+1+1+1=c∧l.length+1=r:=by simpa using z
      have xh:=m L _ (Ck (Bg y2));obtain⟨b1,hh⟩:∃u,u=(S.aC.set t (y+G))[L]:=⟨_,rfl⟩;rw[←hh]at xh;obtain⟨u8,g'⟩:∃u,u=(S.aR.set t true).getD L false:=⟨_,rfl⟩;have a6:X.cell? ⟨w.heap.size+1+1,L,none⟩=some (.bool u8):=by rw[g'];exact xk
      have b2:(L:Int)<(l.length:Int)+1:=by have:=R.o;omega
      clear N m hh g' A n y2 xk z;go_wp2_with fail
      go_roundw
      case rel =>
       have HF:=HP.o;rw[u7.o]at HF;refine⟨L,(.slice y3 (s.steps.length+1) y6),by have:=R.o;omega,rfl,?_⟩;rw[show L=j+1 from R.o,v4.o];unfold Bu.bu;rw[if_neg (by rw[u2];simp)];dsimp only;rw[←HT.o,if_pos d2.o,if_pos d2.o,if_pos (by have:=x6.o;omega),if_pos (by have:=x6.o;omega),←z6.o,←x6.o,←h8.o,←a2.o];exact HF
      case measure=>simp[intOf];have:=R.o;omega
     ·have c4:(op==35)=false:=by simp only[beq_eq_false_iff_ne,ne_eq];omega
      have f4:(op==36)=true:=by simp only[beq_iff_eq];omega
      clear v2 v9;go_wp2_with (refine y4.o.mono ?_;rintro e P⟨rfl,h7⟩)
      have x7:wr.heap.size<((wr.setCell ⟨w.heap.size+1+1+1+1,j,none⟩ (Aj (s.steps.length:Int))).alloc (.cells #[Aj op,Aj a] 96)).heap.size:=by simp[World.setCell]
      have hK:=Aq (y9.o.kK h7);have h0:Hid (aH P wr.heap.size 96 #[Aj op,Aj a]):=Aq ((h7.block _ x7).trans z3.o);have Q:=h9.o _ h0.o;have D:=u5.o _ h0.o;have x3:=hK.o.box.cell 0;simp only[Az,Ay,Bc]at Q D x3;obtain⟨_,E,ch,n⟩:=Bf hK.o.aC (g:=w.heap.size+1+1+1) rfl;obtain⟨c,r,z,_,_,_,m⟩:=Ce hK.o.aC (by omega);obtain⟨rfl,rfl⟩:w.heap.size+1+1+1=c∧l.length+1=r:=by simpa using z
      have J:=m j _ (Ck (l:=s.aC) (i:=j) (v:=s.aC.getD j 0) (by rw[Bn,Bg (by rw[f.o.aC];omega)];rfl));obtain⟨y,x4⟩:∃x,x=s.aC.getD j 0:=⟨_,rfl⟩;rw[←x4]at J;have h8:=Aq x4;clear x4;have C:wr.heap.size<P.heap.size:=h0.o.lt;have z5:=hK.o.box.lt;clear m z n h7 z3 y9 y4 e0 d0 d1 c0 c1 i0 v3 z4 x7 v5 h4;have HA:=Aq (hK.o.drew.alloc (.cells #[Aj op,Aj a,Aj y,Aj (t:Int)] 145));have z9:Hid (Dk (s.steps++[⟨op,a,y,t⟩])=Dk s.steps++[Aj op,Aj a,Aj y,Aj (t:Int)]):=Aq (Jf s.steps [⟨op,a,y,t⟩]);have b8:=Aq ((Cb P.drew (.cells #[Aj op,Aj a,Aj y,Aj (t:Int)] 145) ⟨wr.heap.size,0,none⟩ C).trans Q);have z7:(P.drew.alloc (.cells #[Aj op,Aj a,Aj y,Aj (t:Int)] 145)).cell? ⟨w.heap.size+1,0,none⟩=some (.slice O s.steps.length cv)∧(P.drew.alloc (.cells #[Aj op,Aj a,Aj y,Aj (t:Int)] 145)).cell? ⟨wr.heap.size,0,none⟩=some (Aj op)∧(P.drew.alloc (.cells #[Aj op,Aj a,Aj y,Aj (t:Int)] 145)).cell? ⟨wr.heap.size,1,none⟩=some (Aj a)∧(P.drew.alloc (.cells #[Aj op,Aj a,Aj y,Aj (t:Int)] 145)).cell? ⟨w.heap.size+1+1+1,j,none⟩=some (Aj y) :=
       ⟨(Cb _ _ _ z5).trans x3,(Cb _ _ _ C).trans Q,(Cb _ _ _ C).trans D,(Cb _ _ _ E).trans J⟩
      have I:P.drew.cell? ⟨w.heap.size+1,0,none⟩=some (.slice O s.steps.length cv)∧P.drew.cell? ⟨wr.heap.size,0,none⟩=some (Aj op)∧P.drew.cell? ⟨wr.heap.size,1,none⟩=some (Aj a)∧P.drew.cell? ⟨w.heap.size+1+1+1,j,none⟩=some (Aj y):=⟨x3,Q,D,J⟩;refine Cr [9,10,12] [1,2,6] [9] 13 (fun wq:World=>wq.cell? ⟨w.heap.size+1,0,none⟩=some (.slice O s.steps.length cv)∧wq.cell? ⟨wr.heap.size,0,none⟩=some (Aj op)∧wq.cell? ⟨wr.heap.size,1,none⟩=some (Aj a)∧wq.cell? ⟨w.heap.size+1+1+1,j,none⟩=some (Aj y)) ?_
      iterate 9 (first|refine Be ?_|refine Bj I ?_)
      refine Bi fun K H=>?_;go_simp
      refine H _ _ (fun _=>z7) ?_;clear H K;refine Bi fun K H=>?_
      refine Hf _ rfl (.tmp 70) (.tmp 78) _ rfl 145 i0 _ 4 32 Tryz.underlying87 b3 a7 a9 b5 rfl (by decide) w.heap.size (.slice O s.steps.length cv) s.steps.length (Dk s.steps) rfl HA.o.steps HA.o.below.size _ _ 1 1 [Aj op,Aj a,Aj y,Aj (t:Int)] rfl (qB (cs:=[Aj op,Aj a,Aj y,Aj (t:Int)]) (qv _ _ _) 4 1 rfl) (by simp[Value.oneCell']) (by unfold maxLen;omega) (by omega) ?_;intro v' w6 x5 hg v7;rw[←z9.o,show s.steps.length+1=(s.steps++[⟨op,a,y,t⟩]:List Bu.PS).length by simp]at x5;have hW:=Aq (HA.o.fZ x5 hg);have Av:=HA.o.gN hg;have y5:=Aq (HA.o.gI ((aH.drew h0.o).alloc _) (by decide) hg);obtain⟨y3,y6,u1,_⟩:=Ba x5;rw[Bz,nr]at u1;have x0:=Av.cell 0;have xf:=Av.frozen 0;have xl:=Av.lt;simp only[Az,Ay]at x0;have y7:=Aq (y5.o.dE (p:=⟨w.heap.size+1,0,none⟩) (y5.o.dF Av (by decide)) v');subst u1;clear y5 Av x5 hg v7;refine Bh H ?_;clear H K
      iterate 1 (first|refine Be ?_|refine Bj I ?_)
      refine Bi fun K H=>?_;go_simp
      refine Bh H ?_;clear H K;refine Bb ?_;clear I z7 HA z9 hK h0 Q D x3 J z5 C E x0 xf xl;generalize w6.setCell ⟨w.heap.size+1,0,none⟩ (.slice y3 (s.steps.length+1) y6)=W at *;have y1:=hW.o.box.cell 1;have yf:=hW.o.box.frozen 1;have yl:=hW.o.box.lt;simp only[Az,Ay,Bc]at y1;go_wp2_with fail
      have V:=Aq (hW.o.im zz);have HI:=Aq (y7.o.dE (p:=⟨w.heap.size+1,1,none⟩) (y7.o.dF hW.o.box (by decide)) (Aj zz));clear hW y7 y1 yf yl;generalize W.setCell ⟨w.heap.size+1,1,none⟩ (Aj zz)=U at *;obtain⟨S,T⟩:∃S:Bu.gh,S = { s with index:=s.index.set j s.steps.length,steps:=s.steps++[⟨op,a,y,t⟩],size:=zz } := ⟨_,rfl⟩
      replace V:Hid (eM w l.length S (.slice y3 (s.steps.length+1) y6) U):=Aq (by rw[T];exact V.o)
      have w5:Hid (S.aC=s.aC):=Aq (by rw[T]);have t1:Hid (S.aR=s.aR):=Aq (by rw[T]);have u7:=Aq T;clear T;obtain⟨_,E,ch,n⟩:=Bf V.o.aC (g:=w.heap.size+1+1+1) rfl;obtain⟨_,u4,ck,A⟩:=Bf V.o.aR (g:=w.heap.size+1+1) rfl;obtain⟨c,r,z,_,_,_,m⟩:=Ce V.o.aC (by omega);obtain⟨rfl,rfl⟩:w.heap.size+1+1+1=c∧l.length+1=r:=by simpa using z
      have J:=m j (Aj y) (by rw[w5.o,h8.o];exact Ck (l:=s.aC) (i:=j) (v:=s.aC.getD j 0) (by rw[Bn,Bg (by rw[f.o.aC];omega)];rfl));have Q:=h9.o _ HI.o;have D:=u5.o _ HI.o;simp only[Az,Ay,Bc]at Q D;have C:wr.heap.size<U.heap.size:=HI.o.lt;have h6:=Aq (Ir op a fs U.drew B Af cf (Ex hB V.o.below.size) (HF.o.aQ fun q hq=>V.o.drew.below.cell (Dm hq hB)) a1 (fun h=>by have:=a0.o h;omega) HM.o);rw[←z6.o]at h6;clear m z n A;have I:U.drew.cell? ⟨wr.heap.size,0,none⟩=some (Aj op)∧U.drew.cell? ⟨wr.heap.size,1,none⟩=some (Aj a)∧U.drew.cell? ⟨w.heap.size+1+1+1,j,none⟩=some (Aj y):=⟨Q,D,J⟩;refine Cr [6] [3,4] [6] 9 (fun wq:World=>wq.cell? ⟨wr.heap.size,0,none⟩=some (Aj op)∧wq.cell? ⟨wr.heap.size,1,none⟩=some (Aj a)∧wq.cell? ⟨w.heap.size+1+1+1,j,none⟩=some (Aj y)) ?_
      iterate 6 (first|refine Be ?_|refine Bj I ?_)
      refine Bi fun K H=>?_;go_simp
      refine h6.o.mono ?_;rintro e w9⟨rfl,M⟩;have hS:=Aq (V.o.drew.kK M);have c':Hid (aH w9 wr.heap.size 96 #[Aj op,Aj a]):=Aq ((M.block _ C).trans HI.o.drew);have x8:w9.cell? ⟨wr.heap.size,0,none⟩=some (Aj op)∧w9.cell? ⟨wr.heap.size,1,none⟩=some (Aj a)∧w9.cell? ⟨w.heap.size+1+1+1,j,none⟩=some (Aj y):=⟨(M.cell (p:=⟨wr.heap.size,0,none⟩) C).trans Q,(M.cell (p:=⟨wr.heap.size,1,none⟩) C).trans D,(M.cell (p:=⟨w.heap.size+1+1+1,j,none⟩) E).trans J⟩;refine H _ _ (fun _=>x8) ?_;clear H K
      iterate 2 (first|refine Be ?_|refine Bj I ?_)
      refine Bb ?_;clear I x8 V HI h6 Q D J E u4 C M;have hk:=hS.o.aR;obtain⟨_,h4,ck,A⟩:=Bf hk (g:=w.heap.size+1+1) rfl;have fk:=A.frozen t;obtain⟨c,r,z,_,_,_,N⟩:=Ce hk (by omega);obtain⟨rfl,rfl⟩:w.heap.size+1+1=c∧l.length+1=r:=by simpa using z
      have xk:=N t _ (Fi (by rw[t1.o,f.o.aR];omega));clear N z;have h5:=hS.o.aC;obtain⟨_,E,ch,n⟩:=Bf h5 (g:=w.heap.size+1+1+1) rfl;have fh:=n.frozen t;obtain⟨c,r,z,_,_,_,m⟩:=Ce h5 (by omega);obtain⟨rfl,rfl⟩:w.heap.size+1+1+1=c∧l.length+1=r:=by simpa using z
      have xh:=m t _ (Ck (l:=S.aC) (i:=t) (v:=S.aC.getD t 0) (by rw[Bn,Bg (by rw[w5.o,f.o.aC];omega)];rfl));obtain⟨uh,hh⟩:∃u,u=S.aC.getD t 0:=⟨_,rfl⟩;rw[←hh]at xh;obtain⟨uk,g'⟩:∃u,u=S.aR.getD t false:=⟨_,rfl⟩;rw[←g']at xk;clear m z hh g' hk h5;have a5:IntKind.i64.wrap (y+G)=y+G:=Do _ (by have h1:=v8.o;have h2:=f.o.nG j;have h3:=h8.o;omega);have b4:(t:Int)<(l.length:Int)+1:=by omega
      have y8:=h9.o _ c'.o;simp only[Az,Ay]at y8;have HP:=Aq ((hS.o.dz (i:=t) (by rw[t1.o,f.o.aR];omega) true).e_ (i:=t) (by rw[w5.o,f.o.aC];omega) (y+G));have u9:=Aq (((c'.o.dE (p:=⟨w.heap.size+1+1,t,none⟩) (c'.o.dF A (by decide)) (.bool true))).dE (p:=⟨w.heap.size+1+1+1,t,none⟩) (by show wr.heap.size≠w.heap.size+1+1+1;exact c'.o.dF n (by decide)) (Aj (y+G)));clear A n;go_upto_region 20 with fail
      clear fk xk fh xh y8 c' hS h4 E;generalize (w9.setCell ⟨w.heap.size+1+1,t,none⟩ (.bool true)).setCell ⟨w.heap.size+1+1+1,t,none⟩ (Aj (y+G))=X at *;have u3:=h9.o _ u9.o;simp only[Az,Ay]at u3;obtain⟨_,h4,ck,A⟩:=Bf HP.o.aR (g:=w.heap.size+1+1) rfl;have fk:=A.frozen L;obtain⟨c,r,z,_,_,_,N⟩:=Ce HP.o.aR (by omega);obtain⟨rfl,rfl⟩:w.heap.size+1+1=c∧l.length+1=r:=by simpa using z
      have xk:=N L _ (Fi (by simp only[Dd];rw[t1.o,f.o.aR];have:=R.o;omega));obtain⟨_,E,ch,n⟩:=Bf HP.o.aC (g:=w.heap.size+1+1+1) rfl;have fh:=n.frozen L;have y2:L<(S.aC.set t (y+G)).length:=by simp only[Dd];rw[w5.o,f.o.aC];have:=R.o;omega
      obtain⟨c,r,z,_,_,_,m⟩:=Ce HP.o.aC (by omega);obtain⟨rfl,rfl⟩:w.heap.size+1+1+1=c∧l.length+1=r:=by simpa using z
      have xh:=m L _ (Ck (Bg y2));obtain⟨b1,hh⟩:∃u,u=(S.aC.set t (y+G))[L]:=⟨_,rfl⟩;rw[←hh]at xh;obtain⟨u8,g'⟩:∃u,u=(S.aR.set t true).getD L false:=⟨_,rfl⟩;have a6:X.cell? ⟨w.heap.size+1+1,L,none⟩=some (.bool u8):=by rw[g'];exact xk
      have b2:(L:Int)<(l.length:Int)+1:=by have:=R.o;omega
      clear N m hh g' A n y2 xk z;go_wp2_with fail
      have v6:=Aq ((HP.o.dz (i:=L) (by simp only[Dd];rw[t1.o,f.o.aR];have:=R.o;omega) true).e_ (i:=L) (by simp only[Dd];rw[w5.o,f.o.aC];have:=R.o;omega) (y+G));go_roundw
      case rel =>
       have HF:=v6.o;rw[u7.o]at HF;refine⟨L,(.slice y3 (s.steps.length+1) y6),by have:=R.o;omega,rfl,?_⟩;rw[show L=j+1 from R.o,v4.o];unfold Bu.bu;rw[if_neg (by rw[u2];simp)];dsimp only;rw[←HT.o,←R.o,if_neg z0,if_neg z0,if_pos (by have:=x6.o;omega),if_pos (by have:=x6.o;omega),←z6.o,←x6.o,←h8.o,←a2.o];exact HF
      case measure=>simp[intOf];have:=R.o;omega
    ·have e1:t=L:=by
      have h1:=HT.o;have h2:=R.o;unfold Bu.jump at h1;rw[if_neg v2]at h1;omega
     have z0:¬ op=35:=fun e=>v2 (.inl e)
     subst e1;have c4:(op==35)=false:=by simp only[beq_eq_false_iff_ne,ne_eq];omega
     have f4:(op==36)=false:=by simp only[beq_eq_false_iff_ne,ne_eq];omega
     by_cases hz:0<Z
     ·obtain⟨zz,z1⟩:∃x,x=min (s.size+Z) 20001:=⟨_,rfl⟩;have a2:=Aq z1;have d8:(if (20001:Int)<s.size+Z then(20001:Int) else s.size+Z)=zz:=by rw[z1];omega
      have f3:(if s.size+Z<(20001:Int) then s.size+Z else(20001:Int))=zz:=by rw[z1];omega
      have e8:IntKind.i64.wrap (s.size+Z)=s.size+Z:=Do _ (by have:=c6.o;have:=f.o.size;omega);clear z1;go_wp2_with (refine y4.o.mono ?_;rintro e P⟨rfl,h7⟩)
      have x7:wr.heap.size<((wr.setCell ⟨w.heap.size+1+1+1+1,j,none⟩ (Aj (s.steps.length:Int))).alloc (.cells #[Aj op,Aj a] 96)).heap.size:=by simp[World.setCell]
      have hK:=Aq (y9.o.kK h7);have h0:Hid (aH P wr.heap.size 96 #[Aj op,Aj a]):=Aq ((h7.block _ x7).trans z3.o);have Q:=h9.o _ h0.o;have D:=u5.o _ h0.o;have x3:=hK.o.box.cell 0;simp only[Az,Ay,Bc]at Q D x3;obtain⟨_,E,ch,n⟩:=Bf hK.o.aC (g:=w.heap.size+1+1+1) rfl;obtain⟨c,r,z,_,_,_,m⟩:=Ce hK.o.aC (by omega);obtain⟨rfl,rfl⟩:w.heap.size+1+1+1=c∧l.length+1=r:=by simpa using z
      have J:=m j _ (Ck (l:=s.aC) (i:=j) (v:=s.aC.getD j 0) (by rw[Bn,Bg (by rw[f.o.aC];omega)];rfl));obtain⟨y,x4⟩:∃x,x=s.aC.getD j 0:=⟨_,rfl⟩;rw[←x4]at J;have h8:=Aq x4;clear x4;have C:wr.heap.size<P.heap.size:=h0.o.lt;have z5:=hK.o.box.lt;clear m z n h7 z3 y9 y4 e0 d0 d1 c0 c1 i0 v3 z4 x7 v5 h4;have HA:=Aq (hK.o.drew.alloc (.cells #[Aj op,Aj a,Aj y,Aj (t:Int)] 145));have z9:Hid (Dk (s.steps++[⟨op,a,y,t⟩])=Dk s.steps++[Aj op,Aj a,Aj y,Aj (t:Int)]):=Aq (Jf s.steps [⟨op,a,y,t⟩]);have b8:=Aq ((Cb P.drew (.cells #[Aj op,Aj a,Aj y,Aj (t:Int)] 145) ⟨wr.heap.size,0,none⟩ C).trans Q);have z7:(P.drew.alloc (.cells #[Aj op,Aj a,Aj y,Aj (t:Int)] 145)).cell? ⟨w.heap.size+1,0,none⟩=some (.slice O s.steps.length cv)∧(P.drew.alloc (.cells #[Aj op,Aj a,Aj y,Aj (t:Int)] 145)).cell? ⟨wr.heap.size,0,none⟩=some (Aj op)∧(P.drew.alloc (.cells #[Aj op,Aj a,Aj y,Aj (t:Int)] 145)).cell? ⟨wr.heap.size,1,none⟩=some (Aj a)∧(P.drew.alloc (.cells #[Aj op,Aj a,Aj y,Aj (t:Int)] 145)).cell? ⟨w.heap.size+1+1+1,j,none⟩=some (Aj y) :=
       ⟨(Cb _ _ _ z5).trans x3,(Cb _ _ _ C).trans Q,(Cb _ _ _ C).trans D,(Cb _ _ _ E).trans J⟩
      have I:P.drew.cell? ⟨w.heap.size+1,0,none⟩=some (.slice O s.steps.length cv)∧P.drew.cell? ⟨wr.heap.size,0,none⟩=some (Aj op)∧P.drew.cell? ⟨wr.heap.size,1,none⟩=some (Aj a)∧P.drew.cell? ⟨w.heap.size+1+1+1,j,none⟩=some (Aj y):=⟨x3,Q,D,J⟩;refine Cr [9,10,12] [1,2,6] [9] 13 (fun wq:World=>wq.cell? ⟨w.heap.size+1,0,none⟩=some (.slice O s.steps.length cv)∧wq.cell? ⟨wr.heap.size,0,none⟩=some (Aj op)∧wq.cell? ⟨wr.heap.size,1,none⟩=some (Aj a)∧wq.cell? ⟨w.heap.size+1+1+1,j,none⟩=some (Aj y)) ?_
      iterate 9 (first|refine Be ?_|refine Bj I ?_)
      refine Bi fun K H=>?_;go_simp
      refine H _ _ (fun _=>z7) ?_;clear H K;refine Bi fun K H=>?_
      refine Hf _ rfl (.tmp 70) (.tmp 78) _ rfl 145 i0 _ 4 32 Tryz.underlying87 b3 a7 a9 b5 rfl (by decide) w.heap.size (.slice O s.steps.length cv) s.steps.length (Dk s.steps) rfl HA.o.steps HA.o.below.size _ _ 1 1 [Aj op,Aj a,Aj y,Aj (t:Int)] rfl (qB (cs:=[Aj op,Aj a,Aj y,Aj (t:Int)]) (qv _ _ _) 4 1 rfl) (by simp[Value.oneCell']) (by unfold maxLen;omega) (by omega) ?_;intro v' w6 x5 hg v7;rw[←z9.o,show s.steps.length+1=(s.steps++[⟨op,a,y,t⟩]:List Bu.PS).length by simp]at x5;have hW:=Aq (HA.o.fZ x5 hg);have Av:=HA.o.gN hg;have y5:=Aq (HA.o.gI ((aH.drew h0.o).alloc _) (by decide) hg);obtain⟨y3,y6,u1,_⟩:=Ba x5;rw[Bz,nr]at u1;have x0:=Av.cell 0;have xf:=Av.frozen 0;have xl:=Av.lt;simp only[Az,Ay]at x0;have y7:=Aq (y5.o.dE (p:=⟨w.heap.size+1,0,none⟩) (y5.o.dF Av (by decide)) v');subst u1;clear y5 Av x5 hg v7;refine Bh H ?_;clear H K
      iterate 1 (first|refine Be ?_|refine Bj I ?_)
      refine Bi fun K H=>?_;go_simp
      refine Bh H ?_;clear H K;refine Bb ?_;clear I z7 HA z9 hK h0 Q D x3 J z5 C E x0 xf xl;generalize w6.setCell ⟨w.heap.size+1,0,none⟩ (.slice y3 (s.steps.length+1) y6)=W at *;have y1:=hW.o.box.cell 1;have yf:=hW.o.box.frozen 1;have yl:=hW.o.box.lt;simp only[Az,Ay,Bc]at y1;go_wp2_with fail
      have V:=Aq (hW.o.im zz);have HI:=Aq (y7.o.dE (p:=⟨w.heap.size+1,1,none⟩) (y7.o.dF hW.o.box (by decide)) (Aj zz));clear hW y7 y1 yf yl;generalize W.setCell ⟨w.heap.size+1,1,none⟩ (Aj zz)=U at *;obtain⟨S,T⟩:∃S:Bu.gh,S = { s with index:=s.index.set j s.steps.length,steps:=s.steps++[⟨op,a,y,t⟩],size:=zz } := ⟨_,rfl⟩
      replace V:Hid (eM w l.length S (.slice y3 (s.steps.length+1) y6) U):=Aq (by rw[T];exact V.o)
      have w5:Hid (S.aC=s.aC):=Aq (by rw[T]);have t1:Hid (S.aR=s.aR):=Aq (by rw[T]);have u7:=Aq T;clear T;obtain⟨_,E,ch,n⟩:=Bf V.o.aC (g:=w.heap.size+1+1+1) rfl;obtain⟨_,u4,ck,A⟩:=Bf V.o.aR (g:=w.heap.size+1+1) rfl;obtain⟨c,r,z,_,_,_,m⟩:=Ce V.o.aC (by omega);obtain⟨rfl,rfl⟩:w.heap.size+1+1+1=c∧l.length+1=r:=by simpa using z
      have J:=m j (Aj y) (by rw[w5.o,h8.o];exact Ck (l:=s.aC) (i:=j) (v:=s.aC.getD j 0) (by rw[Bn,Bg (by rw[f.o.aC];omega)];rfl));have Q:=h9.o _ HI.o;have D:=u5.o _ HI.o;simp only[Az,Ay,Bc]at Q D;have C:wr.heap.size<U.heap.size:=HI.o.lt;have h6:=Aq (Ir op a fs U.drew B Af cf (Ex hB V.o.below.size) (HF.o.aQ fun q hq=>V.o.drew.below.cell (Dm hq hB)) a1 (fun h=>by have:=a0.o h;omega) HM.o);rw[←z6.o]at h6;clear m z n A;have I:U.drew.cell? ⟨wr.heap.size,0,none⟩=some (Aj op)∧U.drew.cell? ⟨wr.heap.size,1,none⟩=some (Aj a)∧U.drew.cell? ⟨w.heap.size+1+1+1,j,none⟩=some (Aj y):=⟨Q,D,J⟩;refine Cr [6] [3,4] [6] 9 (fun wq:World=>wq.cell? ⟨wr.heap.size,0,none⟩=some (Aj op)∧wq.cell? ⟨wr.heap.size,1,none⟩=some (Aj a)∧wq.cell? ⟨w.heap.size+1+1+1,j,none⟩=some (Aj y)) ?_
      iterate 6 (first|refine Be ?_|refine Bj I ?_)
      refine Bi fun K H=>?_;go_simp
      refine h6.o.mono ?_;rintro e w9⟨rfl,M⟩;have hS:=Aq (V.o.drew.kK M);have c':Hid (aH w9 wr.heap.size 96 #[Aj op,Aj a]):=Aq ((M.block _ C).trans HI.o.drew);have x8:w9.cell? ⟨wr.heap.size,0,none⟩=some (Aj op)∧w9.cell? ⟨wr.heap.size,1,none⟩=some (Aj a)∧w9.cell? ⟨w.heap.size+1+1+1,j,none⟩=some (Aj y):=⟨(M.cell (p:=⟨wr.heap.size,0,none⟩) C).trans Q,(M.cell (p:=⟨wr.heap.size,1,none⟩) C).trans D,(M.cell (p:=⟨w.heap.size+1+1+1,j,none⟩) E).trans J⟩;refine H _ _ (fun _=>x8) ?_;clear H K
      iterate 2 (first|refine Be ?_|refine Bj I ?_)
      refine Bb ?_;clear I x8 V HI h6 Q D J E u4 C M;have hk:=hS.o.aR;obtain⟨_,h4,ck,A⟩:=Bf hk (g:=w.heap.size+1+1) rfl;have fk:=A.frozen t;obtain⟨c,r,z,_,_,_,N⟩:=Ce hk (by omega);obtain⟨rfl,rfl⟩:w.heap.size+1+1=c∧l.length+1=r:=by simpa using z
      have xk:=N t _ (Fi (by rw[t1.o,f.o.aR];omega));clear N z;have h5:=hS.o.aC;obtain⟨_,E,ch,n⟩:=Bf h5 (g:=w.heap.size+1+1+1) rfl;have fh:=n.frozen t;obtain⟨c,r,z,_,_,_,m⟩:=Ce h5 (by omega);obtain⟨rfl,rfl⟩:w.heap.size+1+1+1=c∧l.length+1=r:=by simpa using z
      have xh:=m t _ (Ck (l:=S.aC) (i:=t) (v:=S.aC.getD t 0) (by rw[Bn,Bg (by rw[w5.o,f.o.aC];omega)];rfl));obtain⟨uh,hh⟩:∃u,u=S.aC.getD t 0:=⟨_,rfl⟩;rw[←hh]at xh;obtain⟨uk,g'⟩:∃u,u=S.aR.getD t false:=⟨_,rfl⟩;rw[←g']at xk;clear m z hh g' hk h5;have a5:IntKind.i64.wrap (y+G)=y+G:=Do _ (by have h1:=v8.o;have h2:=f.o.nG j;have h3:=h8.o;omega);have b4:(t:Int)<(l.length:Int)+1:=by omega
      have y8:=h9.o _ c'.o;simp only[Az,Ay]at y8;have HP:=Aq ((hS.o.dz (i:=t) (by rw[t1.o,f.o.aR];omega) true).e_ (i:=t) (by rw[w5.o,f.o.aC];omega) (y+G));have u9:=Aq (((c'.o.dE (p:=⟨w.heap.size+1+1,t,none⟩) (c'.o.dF A (by decide)) (.bool true))).dE (p:=⟨w.heap.size+1+1+1,t,none⟩) (by show wr.heap.size≠w.heap.size+1+1+1;exact c'.o.dF n (by decide)) (Aj (y+G)));clear A n;go_upto_region 20 with fail
      clear fk xk fh xh y8 c' hS h4 E;generalize (w9.setCell ⟨w.heap.size+1+1,t,none⟩ (.bool true)).setCell ⟨w.heap.size+1+1+1,t,none⟩ (Aj (y+G))=X at *;have u3:=h9.o _ u9.o;simp only[Az,Ay]at u3;obtain⟨_,h4,ck,A⟩:=Bf HP.o.aR (g:=w.heap.size+1+1) rfl;have fk:=A.frozen t;obtain⟨c,r,z,_,_,_,N⟩:=Ce HP.o.aR (by omega);obtain⟨rfl,rfl⟩:w.heap.size+1+1=c∧l.length+1=r:=by simpa using z
      have xk:=N t _ (Fi (by simp only[Dd];rw[t1.o,f.o.aR];have:=R.o;omega));obtain⟨_,E,ch,n⟩:=Bf HP.o.aC (g:=w.heap.size+1+1+1) rfl;have fh:=n.frozen t;have y2:t<(S.aC.set t (y+G)).length:=by simp only[Dd];rw[w5.o,f.o.aC];have:=R.o;omega
      obtain⟨c,r,z,_,_,_,m⟩:=Ce HP.o.aC (by omega);obtain⟨rfl,rfl⟩:w.heap.size+1+1+1=c∧l.length+1=r:=by simpa using z
      have xh:=m t _ (Ck (Bg y2));obtain⟨b1,hh⟩:∃u,u=(S.aC.set t (y+G))[t]:=⟨_,rfl⟩;rw[←hh]at xh;obtain⟨u8,g'⟩:∃u,u=(S.aR.set t true).getD t false:=⟨_,rfl⟩;have a6:X.cell? ⟨w.heap.size+1+1,t,none⟩=some (.bool u8):=by rw[g'];exact xk
      have b2:(t:Int)<(l.length:Int)+1:=by have:=R.o;omega
      clear N m hh g' A n y2 xk z;go_wp2_with fail
      have v6:=Aq ((HP.o.dz (i:=t) (by simp only[Dd];rw[t1.o,f.o.aR];have:=R.o;omega) true).e_ (i:=t) (by simp only[Dd];rw[w5.o,f.o.aC];have:=R.o;omega) (y+G));go_roundw
      case rel =>
       have HF:=v6.o;rw[u7.o]at HF;refine⟨t,(.slice y3 (s.steps.length+1) y6),by have:=R.o;omega,rfl,?_⟩;rw[show t=j+1 from R.o,v4.o];unfold Bu.bu;rw[if_neg (by rw[u2];simp)];dsimp only;rw[←HT.o,←R.o,if_neg z0,if_neg z0,if_pos (by have:=x6.o;omega),if_pos (by have:=x6.o;omega),←z6.o,←x6.o,←h8.o,←a2.o];exact HF
      case measure=>simp[intOf];have:=R.o;omega
     ·have f7:Z≤0:=by omega
      go_wp2_with (refine y4.o.mono ?_;rintro e P⟨rfl,h7⟩)
      have x7:wr.heap.size<((wr.setCell ⟨w.heap.size+1+1+1+1,j,none⟩ (Aj (s.steps.length:Int))).alloc (.cells #[Aj op,Aj a] 96)).heap.size:=by simp[World.setCell]
      have hK:=Aq (y9.o.kK h7);have HI:Hid (aH P wr.heap.size 96 #[Aj op,Aj a]):=Aq ((h7.block _ x7).trans z3.o);clear h7 z3 y9 y4 e0 d0 d1 c0 c1 i0 v3 z4 x7 v5 h4;generalize P=U at *;obtain⟨S,T⟩:∃S:Bu.gh,S = { s with index:=s.index.set j s.steps.length } := ⟨_,rfl⟩;have V:Hid (eM w l.length S (.slice O s.steps.length cv) U):=Aq (by rw[T];exact hK.o);obtain⟨y,x4⟩:∃x,x=s.aC.getD j 0:=⟨_,rfl⟩;have h8:=Aq x4;have w5:Hid (S.aC=s.aC):=Aq (by rw[T]);have t1:Hid (S.aR=s.aR):=Aq (by rw[T]);have u7:=Aq T;clear T hK x4;obtain⟨_,E,ch,n⟩:=Bf V.o.aC (g:=w.heap.size+1+1+1) rfl;obtain⟨_,u4,ck,A⟩:=Bf V.o.aR (g:=w.heap.size+1+1) rfl;obtain⟨c,r,z,_,_,_,m⟩:=Ce V.o.aC (by omega);obtain⟨rfl,rfl⟩:w.heap.size+1+1+1=c∧l.length+1=r:=by simpa using z
      have J:=m j (Aj y) (by rw[w5.o,h8.o];exact Ck (l:=s.aC) (i:=j) (v:=s.aC.getD j 0) (by rw[Bn,Bg (by rw[f.o.aC];omega)];rfl));have Q:=h9.o _ HI.o;have D:=u5.o _ HI.o;simp only[Az,Ay,Bc]at Q D;have C:wr.heap.size<U.heap.size:=HI.o.lt;have h6:=Aq (Ir op a fs U.drew B Af cf (Ex hB V.o.below.size) (HF.o.aQ fun q hq=>V.o.drew.below.cell (Dm hq hB)) a1 (fun h=>by have:=a0.o h;omega) HM.o);rw[←z6.o]at h6;clear m z n A;have I:U.drew.cell? ⟨wr.heap.size,0,none⟩=some (Aj op)∧U.drew.cell? ⟨wr.heap.size,1,none⟩=some (Aj a)∧U.drew.cell? ⟨w.heap.size+1+1+1,j,none⟩=some (Aj y):=⟨Q,D,J⟩;refine Cr [6] [3,4] [6] 9 (fun wq:World=>wq.cell? ⟨wr.heap.size,0,none⟩=some (Aj op)∧wq.cell? ⟨wr.heap.size,1,none⟩=some (Aj a)∧wq.cell? ⟨w.heap.size+1+1+1,j,none⟩=some (Aj y)) ?_
      iterate 6 (first|refine Be ?_|refine Bj I ?_)
      refine Bi fun K H=>?_;go_simp
      refine h6.o.mono ?_;rintro e w9⟨rfl,M⟩;have hS:=Aq (V.o.drew.kK M);have c':Hid (aH w9 wr.heap.size 96 #[Aj op,Aj a]):=Aq ((M.block _ C).trans HI.o.drew);have x8:w9.cell? ⟨wr.heap.size,0,none⟩=some (Aj op)∧w9.cell? ⟨wr.heap.size,1,none⟩=some (Aj a)∧w9.cell? ⟨w.heap.size+1+1+1,j,none⟩=some (Aj y):=⟨(M.cell (p:=⟨wr.heap.size,0,none⟩) C).trans Q,(M.cell (p:=⟨wr.heap.size,1,none⟩) C).trans D,(M.cell (p:=⟨w.heap.size+1+1+1,j,none⟩) E).trans J⟩;refine H _ _ (fun _=>x8) ?_;clear H K
      iterate 2 (first|refine Be ?_|refine Bj I ?_)
      refine Bb ?_;clear I x8 V HI h6 Q D J E u4 C M;have hk:=hS.o.aR;obtain⟨_,h4,ck,A⟩:=Bf hk (g:=w.heap.size+1+1) rfl;have fk:=A.frozen t;obtain⟨c,r,z,_,_,_,N⟩:=Ce hk (by omega);obtain⟨rfl,rfl⟩:w.heap.size+1+1=c∧l.length+1=r:=by simpa using z
      have xk:=N t _ (Fi (by rw[t1.o,f.o.aR];omega));clear N z;have h5:=hS.o.aC;obtain⟨_,E,ch,n⟩:=Bf h5 (g:=w.heap.size+1+1+1) rfl;have fh:=n.frozen t;obtain⟨c,r,z,_,_,_,m⟩:=Ce h5 (by omega);obtain⟨rfl,rfl⟩:w.heap.size+1+1+1=c∧l.length+1=r:=by simpa using z
      have xh:=m t _ (Ck (l:=S.aC) (i:=t) (v:=S.aC.getD t 0) (by rw[Bn,Bg (by rw[w5.o,f.o.aC];omega)];rfl));obtain⟨uh,hh⟩:∃u,u=S.aC.getD t 0:=⟨_,rfl⟩;rw[←hh]at xh;obtain⟨uk,g'⟩:∃u,u=S.aR.getD t false:=⟨_,rfl⟩;rw[←g']at xk;clear m z hh g' hk h5;have a5:IntKind.i64.wrap (y+G)=y+G:=Do _ (by have h1:=v8.o;have h2:=f.o.nG j;have h3:=h8.o;omega);have b4:(t:Int)<(l.length:Int)+1:=by omega
      have y8:=h9.o _ c'.o;simp only[Az,Ay]at y8;have HP:=Aq ((hS.o.dz (i:=t) (by rw[t1.o,f.o.aR];omega) true).e_ (i:=t) (by rw[w5.o,f.o.aC];omega) (y+G));have u9:=Aq (((c'.o.dE (p:=⟨w.heap.size+1+1,t,none⟩) (c'.o.dF A (by decide)) (.bool true))).dE (p:=⟨w.heap.size+1+1+1,t,none⟩) (by show wr.heap.size≠w.heap.size+1+1+1;exact c'.o.dF n (by decide)) (Aj (y+G)));clear A n;go_upto_region 20 with fail
      clear fk xk fh xh y8 c' hS h4 E;generalize (w9.setCell ⟨w.heap.size+1+1,t,none⟩ (.bool true)).setCell ⟨w.heap.size+1+1+1,t,none⟩ (Aj (y+G))=X at *;have u3:=h9.o _ u9.o;simp only[Az,Ay]at u3;obtain⟨_,h4,ck,A⟩:=Bf HP.o.aR (g:=w.heap.size+1+1) rfl;have fk:=A.frozen t;obtain⟨c,r,z,_,_,_,N⟩:=Ce HP.o.aR (by omega);obtain⟨rfl,rfl⟩:w.heap.size+1+1=c∧l.length+1=r:=by simpa using z
      have xk:=N t _ (Fi (by simp only[Dd];rw[t1.o,f.o.aR];have:=R.o;omega));obtain⟨_,E,ch,n⟩:=Bf HP.o.aC (g:=w.heap.size+1+1+1) rfl;have fh:=n.frozen t;have y2:t<(S.aC.set t (y+G)).length:=by simp only[Dd];rw[w5.o,f.o.aC];have:=R.o;omega
      obtain⟨c,r,z,_,_,_,m⟩:=Ce HP.o.aC (by omega);obtain⟨rfl,rfl⟩:w.heap.size+1+1+1=c∧l.length+1=r:=by simpa using z
      have xh:=m t _ (Ck (Bg y2));obtain⟨b1,hh⟩:∃u,u=(S.aC.set t (y+G))[t]:=⟨_,rfl⟩;rw[←hh]at xh;obtain⟨u8,g'⟩:∃u,u=(S.aR.set t true).getD t false:=⟨_,rfl⟩;have a6:X.cell? ⟨w.heap.size+1+1,t,none⟩=some (.bool u8):=by rw[g'];exact xk
      have b2:(t:Int)<(l.length:Int)+1:=by have:=R.o;omega
      clear N m hh g' A n y2 xk z;go_wp2_with fail
      have v6:=Aq ((HP.o.dz (i:=t) (by simp only[Dd];rw[t1.o,f.o.aR];have:=R.o;omega) true).e_ (i:=t) (by simp only[Dd];rw[w5.o,f.o.aC];have:=R.o;omega) (y+G));go_roundw
      case rel =>
       have HF:=v6.o;rw[u7.o]at HF;refine⟨t,(.slice O s.steps.length cv),by have:=R.o;omega,rfl,?_⟩;rw[show t=j+1 from R.o,v4.o];unfold Bu.bu;rw[if_neg (by rw[u2];simp)];dsimp only;rw[←HT.o,←R.o,if_neg z0,if_neg z0,if_neg (by have:=x6.o;omega),if_neg (by have:=x6.o;omega),←z6.o,←h8.o];exact HF
      case measure=>simp[intOf];have:=R.o;omega
  ·obtain rfl:j=l.length:=by omega
   have x9:=Bu.gK fs ps l ps.length z8.o l.length Aw;have d3:Bu.aY l fs ps=⟨(Bu.bJ fs ps l 0 (Bu.start l.length)).steps.map fun p => { p with go:=((Bu.bJ fs ps l 0 (Bu.start l.length)).index.set l.length (Bu.bJ fs ps l 0 (Bu.start l.length)).steps.length).getD p.go 0 },(Bu.bJ fs ps l 0 (Bu.start l.length)).size⟩:=rfl;rw[o_]at F x9;generalize Bu.bJ fs ps l 0 (Bu.start l.length)=s at *;obtain⟨O,cv,a8,e5,_⟩:=Ba F.steps;subst a8;have c0:=F.box.cell 0;simp only[Az,Ay,Bc]at c0;obtain⟨_,v5,ci,z4⟩:=Bf F.index (g:=w.heap.size+1+1+1+1) rfl;have v3:=z4.frozen l.length;obtain⟨c,r,z,_,_,_,u0⟩:=Ce F.index (by omega);obtain⟨rfl,rfl⟩:w.heap.size+1+1+1+1=c∧l.length+1=r:=by simpa using z
   have c3:l.length<(ks s.index).length:=by rw[Pb,x9.index];omega
   have x0:=u0 l.length _ (Bg c3);obtain⟨ux,d6⟩:∃u,u=(ks s.index)[l.length]:=⟨_,rfl⟩;rw[←d6]at x0;have cY:=F.box.lt;have f9:(l.length:Int)<(l.length:Int)+1:=by omega
   have a3:=Aq (F.iz (i:=l.length) (by rw[x9.index];omega) s.steps.length);obtain⟨S,u6⟩:∃S:Bu.gh,S = { s with index:=s.index.set l.length s.steps.length } := ⟨_,rfl⟩;have c5:S.steps.length=s.steps.length:=by rw[u6]
   have d4:S.index.length=l.length+1:=by rw[u6];simp only[Dd];exact x9.index
   have c2:∀p∈S.steps,p.go≤l.length:=by rw[u6];exact x9.gos
   have z2:=Aq c5;have d7:=Aq d4;have f2:=Aq c2;have f8:=x9.steps;have e4:Hid (s.steps.map (fun p:Bu.PS => { p with go:=(s.index.set l.length s.steps.length).getD p.go 0 })=bm S.index S.steps S.steps.length):=Aq (by rw[Zfx,u6]);have y4:Hid (s.size=S.size):=Aq (by rw[u6])
   replace a3:Hid (eM w l.length { S with steps:=bm S.index S.steps 0 } (.slice O s.steps.length cv) (wr.setCell ⟨w.heap.size+1+1+1+1,l.length,none⟩ (Aj (s.steps.length:Int)))):=Aq (by rw[Zbx,u6];exact a3.o)
   have e6:=Aq d3;clear F x9 d6 u0 z z4 c3 u6 c5 d4 c2 d3;go_wp2_with fail
   generalize wr.setCell ⟨w.heap.size+1+1+1+1,l.length,none⟩ (Aj (s.steps.length:Int))=Y at *;go_loopw [125] (fun i W=>PlJ w l.length S (.slice O s.steps.length cv) i W) (fun i _=>s.steps.length-(intOf i).toNat)
   case atStart=>exact⟨0,By _,rfl,a3.o⟩
   case round =>
    clear a3;obtain⟨k,hk,rfl,F⟩:=hrel;rw[z2.o]at hk;by_cases i3:k<s.steps.length
    ·obtain⟨p,hp⟩:∃p,S.steps[k]?=some p:=⟨_,Bg (by rw[z2.o];omega)⟩;have e7:=f2.o p (Bx hp);have b0:=(Zki S.index S.steps k).trans hp;have d5:=Zby S.index S.steps k hp;obtain⟨g,dA,he,_,g1,_,c7⟩:=Ce F.steps (by simp only;rw[Lg,z2.o];omega);simp only at he;rw[Lg,z2.o]at he;simp only[Value.slice.injEq,true_and]at he;obtain⟨rfl,rfl⟩:=he;have x1:=c7 _ _ (Ns _ k p b0);obtain⟨_,_,f5,v0⟩:=Bf F.steps (g:=g) rfl;have fg:=v0.frozen (k*4+3);obtain⟨c,r,z,_,_,_,u0⟩:=Ce F.index (by omega);obtain⟨rfl,rfl⟩:w.heap.size+1+1+1+1=c∧l.length+1=r:=by simpa using z
     have b7:p.go<S.index.length:=by rw[d7.o];omega
     have x2:=u0 p.go (Aj ((S.index.getD p.go 0:Nat):Int)) (by
      unfold ks;refine Ck ?_;rw[Cc,Bn,Bg b7];rfl)
     have c0:=F.box.cell 0;simp only[Az,Ay,Bc]at c0;have HR:=Aq (F.setGo (g:=g) rfl b0 (S.index.getD p.go 0));simp only at HR;rw[d5]at HR;obtain⟨q,hq⟩:∃q,q=S.index.getD p.go 0:=⟨_,rfl⟩;rw[←hq]at x2 HR;obtain⟨d,hd⟩:∃d,d=p.go:=⟨_,rfl⟩;rw[←hd]at x1 x2 e7;have f6:(k:Int)<s.steps.length:=by omega
     have g0:(d:Int)<(l.length:Int)+1:=by omega
     clear F hp b0 d5 c7 u0 z v0 hq hd b7;go_wp2_with fail
     have I:wr.drew.cell? ⟨w.heap.size+1,0,none⟩=some (.slice (some ⟨g,0,none⟩) s.steps.length cv)∧wr.drew.cell? ⟨g,k*4+3,none⟩=some (Aj (d:Int))∧wr.drew.cell? ⟨w.heap.size+1+1+1+1,d,none⟩=some (Aj (q:Int)):=⟨c0,x1,x2⟩;refine Cr [14] [1,5,9,11] [] 15 (fun wq:World=>wq.cell? ⟨w.heap.size+1,0,none⟩=some (.slice (some ⟨g,0,none⟩) s.steps.length cv)∧wq.cell? ⟨g,k*4+3,none⟩=some (Aj (d:Int))∧wq.cell? ⟨w.heap.size+1+1+1+1,d,none⟩=some (Aj (q:Int))) ?_
     iterate 14 (first|refine Be ?_|refine Bj I ?_)
     refine Bi fun K H=>?_;go_simp
     refine Bh H ?_;clear H K;refine Bb ?_;clear I;go_wp2_with fail
     go_roundw
     case rel=>exact⟨k+1,by rw[z2.o];omega,by simp,HR.o.drew⟩
     case measure=>simp[intOf];omega
    ·obtain rfl:k=s.steps.length:=by omega
     have c0:=F.box.cell 0;have c1:=F.box.cell 1;have o0:=F.o.cell 0;have o1:=F.o.cell 1;simp only[Az,Ay,Bc]at c0 c1 o0 o1;have f0:=F.o.frozen 0;have f1:=F.o.frozen 1;have g5:=F.o.lt;have e9:=F.box.lt;have HQ:=Aq F;clear F;go_wp2_with fail
     have e2:Bu.aY l fs ps=⟨bm S.index S.steps s.steps.length,S.size⟩:=by rw[e6.o,e4.o,z2.o,y4.o]
     have hb:aH ((wr.setCell ⟨w.heap.size,0,none⟩ (.slice O s.steps.length cv)).setCell ⟨w.heap.size,1,none⟩ (Aj S.size)) w.heap.size 89 #[.slice O s.steps.length cv,Aj S.size]:=(HQ.o.o.aZ 0 (.slice O s.steps.length cv)).aZ 1 (Aj S.size);have r0:=hb.cell 0;have r1:=hb.cell 1;simp only[Az,Ay,Bc]at r0 r1;have ho:=Ci (Ci HQ.o.steps HQ.o.o (by decide) 0 (.slice O s.steps.length cv)) (HQ.o.o.aZ 0 (.slice O s.steps.length cv)) (by decide) 1 (Aj S.size);have d9:=(HQ.o.below.setCell (p:=⟨w.heap.size,0,none⟩) Aw (.slice O s.steps.length cv)).setCell (p:=⟨w.heap.size,1,none⟩) Aw (Aj S.size);simp only at ho;rw[Lg,z2.o]at ho;generalize (wr.setCell ⟨w.heap.size,0,none⟩ (.slice O s.steps.length cv)).setCell ⟨w.heap.size,1,none⟩ (Aj S.size)=Z at *;clear c0 c1 o0 o1 f0 f1 HQ hb;rw[e2];refine bodyPost_ret (v:=.agg #[.slice O s.steps.length cv,Aj S.size]) (by simp[results,Tryz.results34,go_sem,r0,r1]) rfl ⟨.slice O s.steps.length cv,rfl,d9,?_⟩;simp only;rw[Lg,z2.o];exact ho
end
end Go.Proofs.YtnhebmgibiomnaaGreat

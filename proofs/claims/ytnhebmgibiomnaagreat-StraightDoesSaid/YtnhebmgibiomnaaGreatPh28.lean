import Derived.Test.YtnhebmgibiomnaaGreatPh27
set_option linter.unusedVariables false
set_option linter.unusedSimpArgs false
set_option maxRecDepth 100000
set_option maxHeartbeats 8000000
namespace Go.Proofs.YtnhebmgibiomnaaGreat
section
open Go.RowKit
def js (N0:Nat):Repr N0 (Int×Bool×Value) where
 size:=3
 df:=[]
 rel _ _ a cs:=cs=[Aj a.1,.bool a.2.1,a.2.2]∧bS a.1∧∃A n c,a.2.2=.slice A n c
 len h:=by obtain⟨rfl,_⟩:=h;rfl
 aQ h _:=h
 a_ h _:=h
 eB h:=by obtain⟨rfl,_,A,n,c,e⟩:=h;rw[e];simp[Value.oneCell']
theorem Te:(Tryz.prog.info? 186).map (fun i=>(i.zero,i.size,i.bytes))=some (some (.agg #[Aj 0,.bool false,.slice none 0 0]),3,40):=by kernel_rfl
theorem Zu:(Tryz.prog.info? 190).map (fun i=>(i.zero,i.size,i.bytes))=some (some (.agg #[.slice none 0 0,.slice none 0 0,.slice none 0 0,.slice none 0 0,.slice none 0 0,Aj 0]),6,128):=by kernel_rfl
structure f_ (N0:Nat) (m:cW) (w0:World) (wx:World) (vl vc:Value) (l:List (Int×Bool×Value)) (cl:List Int):Prop where
 kG:aM (js N0) 186 w0.heap.size wx vl l
 ao:aM (Repr.int (N0:=N0)) 3 w0.heap.size wx vc cl
 am:Mk wx {m with c5:=vl}
 fr:dX m.M w0 wx
 hM:N0≤m.M∧m.M<w0.heap.size
section
variable {N0 : Nat} {m : cW} {w0 wx wy : World} {vl vc : Value} {l : List (Int × Bool × Value)} {cl : List Int}
theorem f_.next (h:f_ N0 m w0 wx vl vc l cl) (z:Mk wy {m with c5:=vl}) (x:dX m.M wx wy):f_ N0 m w0 wy vl vc l cl:=by
 obtain⟨u,y⟩:=h.am.aG;have hM:=h.hM;exact⟨h.kG.fr x y (by simp[js]) hM.1,h.ao.fr x y (by simp[Repr.int]) hM.1,z,h.fr.trans x,hM⟩
theorem f_.below (h:f_ N0 m w0 wx vl vc l cl)(x:Below wx.heap.size wx wy):f_ N0 m w0 wy vl vc l cl:=by
 obtain⟨aK,q,z,u,y,xs,p,k⟩:=h.am;have v:=y.lt;exact⟨h.kG.below x Aw,h.ao.below x Aw,⟨aK,q,z,u,y.below x v,xs,p.below x (by omega),k⟩,h.fr.trans (qC x fun _ r _=>r),h.hM⟩
theorem f_.alloc (h:f_ N0 m w0 wx vl vc l cl)(o:Obj):f_ N0 m w0 (wx.alloc o) vl vc l cl:=h.below (aI.alloc Aw _)
theorem f_.drew (h:f_ N0 m w0 wx vl vc l cl):f_ N0 m w0 wx.drew vl vc l cl:=h.below aI.drew
theorem f_.nD (h:f_ N0 m w0 wx vl vc l cl){z:Option Addr}{n' y:Nat} {l':List (Int×Bool×Value)} (q:aM (js N0) 186 w0.heap.size wy (.slice z n' y) l') (u:wx.grownBy wy vl.ownBlock) :
  Mk wy {m with c5:=vl}∧f_ N0 m w0 (wy.setCell ⟨m.M,5,none⟩ (.slice z n' y)) (.slice z n' y) vc l' cl:=by
 have hM:=h.hM;have a:=fun g e=>(h.kG.block (g:=g) e).1
 have am:Mk wy {m with c5:=vl} := h.am.grown h.kG u (by decide) hM.2;obtain⟨j,k⟩:=am.aG;have s:aM (Repr.int (N0:=N0)) 3 w0.heap.size wy vc cl:=h.ao.grown u fun g t' xs n e x=>by
  obtain⟨w,_,o,b⟩:=h.kG.block e;rw[b]at x
  injection x with x
  injection x with _ i
  subst i;exact⟨by omega,by simp[Repr.int]⟩
 refine⟨am,q.setCell k (by simp[js]) hM.1 _ _,s.setCell k (by simp[Repr.int]) hM.1 _ _,?_,(h.fr.dt u fun g e=>by have:=a g e;omega).setCell (.inl rfl) _,hM⟩;obtain⟨aK,f,p,v,c,xs,d,r⟩:=am;exact⟨aK,f,p,v,by simpa using c.aZ 5 (.slice z n' y),xs,d.setCell v _,r⟩
theorem f_.gD (h:f_ N0 m w0 wx vl vc l cl){z:Value}{u:List Int} (v:aM (Repr.int (N0:=N0)) 3 w0.heap.size wy z u) (y:wx.grownBy wy vc.ownBlock):f_ N0 m w0 wy vl z l u:=by
 have hM:=h.hM;have p:=fun g e=>(h.ao.block (g:=g) e).1
 have k:aM (js N0) 186 w0.heap.size wy vl l:=h.kG.grown y fun g t' xs s e x=>by
  obtain⟨b,_,a,q⟩:=h.ao.block e;rw[q]at x
  injection x with x
  injection x with _ r
  subst r;exact⟨by omega,by simp[js]⟩
 exact⟨k,v,h.am.grown h.ao y (by decide) hM.2,h.fr.dt y fun g e=>by have:=p g e;omega,hM⟩
theorem f_.kI (h:f_ N0 m w0 wx vl vc l cl){vr:Value}{rl K:List dI} (a:aM (Hi N0) 190 w0.heap.size wx vr rl) {p:Option Addr} {n' v:Nat} (X:aM (Hi N0) 190 w0.heap.size wy (.slice p n' v) K) (q:wx.grownBy wy vr.ownBlock) {i g n dA:Nat} {k:Int} {f:Bool} {u:Value} (hi:l[i]?=some (k,f,u)) (c:vl=.slice (some ⟨g,0,none⟩) n dA) :
  f_ N0 m w0 wy vl vc l cl∧f_ N0 m w0 (wy.setCell ⟨g,i*3+2,none⟩ (.slice p n' v)) vl vc (l.set i (k,f,.slice p n' v)) cl∧aM (Hi N0) 190 w0.heap.size (wy.setCell ⟨g,i*3+2,none⟩ (.slice p n' v)) (.slice p n' v) K:=by
 have hM:=h.hM;have Z:=fun g e=>(a.block (g:=g) e).1
 have b:∀(g:Nat) (t':TypeId) (xs:Array Value) (z:Nat×Nat),vr.ownBlock=some g→wx.heap[g]?=some (.cells xs t' z)→N0≤g∧t'=190:=fun g t' xs z e y=>by
  obtain⟨x,_,P,U⟩:=a.block e;rw[U]at y
  injection y with y
  injection y with _ V
  subst V;exact⟨by omega,rfl⟩
 have s:aM (js N0) 186 w0.heap.size wy vl l:=h.kG.grown q fun g t' xs z e y=>by
  obtain⟨x,r⟩:=b g t' xs z e y;subst r;exact⟨x,by simp[js]⟩
 have o:aM (Repr.int (N0:=N0)) 3 w0.heap.size wy vc cl:=h.ao.grown q fun g t' xs z e y=>by
  obtain⟨x,r⟩:=b g t' xs z e y;subst r;exact⟨x,by simp[Repr.int]⟩
 have d:=h.am.grown a q (by decide) hM.2;have H:=h.fr.dt q fun g e=>by have:=Z g e;omega
 have x:f_ N0 m w0 wy vl vc l cl:=⟨s,o,d,H,hM⟩;obtain⟨Y,xs,w⟩:=s.aG c;refine⟨x,⟨?_,o.setCell w (by simp[Repr.int]) (by omega) _ _,d.setCell (by simp;omega) _,H.setCell (.inr Y) _,hM⟩,X.setCell w (by simp[Hi,Cn,Ei,Jh,Repr.map,Repr.row,Repr.bi,Repr.int]) (by omega) _ _⟩;refine s.upd (j:=2) hi (show 2<3 by decide) _ (by simp[js]) (by omega) ?_ c;rintro cs⟨rfl,x,r⟩;exact⟨rfl,x,_,_,_,rfl⟩
end
end
section
open Go.RowKit
structure lG (N0:Nat) (m:cW) (w0:World) (wx:World) (vl vc:Value) (l:List (Int×Bool×Value)) (cl:List Int) (vr:Value) (rl:List dI):Prop where
 a:f_ N0 m w0 wx vl vc l cl
 r:aM (Hi N0) 190 w0.heap.size wx vr rl
section
variable {N0 : Nat} {m : cW} {w0 wx wy : World} {vl vc vr : Value} {l : List (Int × Bool × Value)} {cl : List Int} {rl : List dI}
theorem lG.next (h:lG N0 m w0 wx vl vc l cl vr rl) (z:Mk wy {m with c5:=vl}) (x:dX m.M wx wy):lG N0 m w0 wy vl vc l cl vr rl:=by
 obtain⟨u,y⟩:=h.a.am.aG;exact⟨h.a.next z x,h.r.fr x y (by simp[Hi,Cn,Ei,Jh,Repr.map,Repr.row,Repr.bi,Repr.int]) h.a.hM.1⟩
theorem lG.alloc (h:lG N0 m w0 wx vl vc l cl vr rl)(o:Obj):lG N0 m w0 (wx.alloc o) vl vc l cl vr rl:=⟨h.a.alloc o,h.r.below (aI.alloc Aw _) Aw⟩
theorem lG.drew (h:lG N0 m w0 wx vl vc l cl vr rl):lG N0 m w0 wx.drew vl vc l cl vr rl:=⟨h.a.drew,h.r.below aI.drew Aw⟩
theorem f_.gU (h:f_ N0 m w0 wx vl vc l cl):wx.cell? ⟨m.M,5,none⟩=some vl:=by
 have:=h.am.cells.1 5 (by omega)
 simpa using this
theorem f_.elem (h:f_ N0 m w0 wx vl vc l cl){i:Nat}{k:Int}{v:Bool}{u:Value} (hi:l[i]?=some (k,v,u)) {g n dA:Nat} (z:vl=.slice (some ⟨g,0,none⟩) n dA) :
  w0.heap.size≤g∧g<wx.heap.size∧bS k∧wx.cell? ⟨g,i*3,none⟩=some (Aj k)∧wx.cell? ⟨g,i*3+2,none⟩=some u∧∀j,wx.frozen? ⟨g,j,none⟩=false:=by
 obtain⟨b,a,xs,cs,e,y,p,c,⟨rfl,q,s⟩,x,r⟩:=h.kG.elem hi;rw[z]at e
 injection e with e
 injection e with e
 injection e with e
 subst e;exact⟨y,p,q,by simpa [js]using x 0 _ rfl,by simpa [js]using x 2 _ rfl,r⟩
end
theorem Sh {N0:Nat}{w:World}{B:Nat}{r:dI}{vb vi va vo vc y:Value} (h:(Hi N0).rel w B r [vb,vi,va,vo,vc,y]) :
  (∃A n c,vb=.slice A n c)∧(∃A n c,vi=.slice A n c)∧(∃A n c,va=.slice A n c)∧(∃A n c,vo=.slice A n c)∧∃A n c,vc=.slice A n c:=by
 obtain⟨_,_,x,⟨u,k,rfl,_⟩,_,_,rfl,⟨p,v,rfl,_⟩,_,_,rfl,⟨z,b,rfl,_⟩,_,_,rfl,⟨s,a,rfl,_⟩,_,_,rfl,⟨d,q,rfl,_⟩,rfl,_⟩:=h;simp only[oa,gs,pq,and_true]at x;obtain⟨rfl,rfl,rfl,rfl,rfl,rfl⟩:=x;exact⟨⟨_,_,_,rfl⟩,⟨_,_,_,rfl⟩,⟨_,_,_,rfl⟩,⟨_,_,_,rfl⟩,⟨_,_,_,rfl⟩⟩
def Lk1 (N0:Nat)(m:cW)(w:World)(n:Int)(vc i:Value)(wr:World):Prop :=
 ∃(k:Nat) (vl:Value) (l:List (Int×Bool×Value)) (cl:List Int),k≤n.toNat∧i=Aj k∧f_ N0 m w wr vl vc l cl∧l.length≤k∧k≤l.length∧cl.length≤k∧∀x∈l,x.2.2=.slice none 0 0
def Lk2 (N0:Nat)(m:cW)(w:World)(n:Int)(vc:Value)(cl:List Int)(i:Value)(wr:World):Prop :=
 ∃(k:Nat) (vl:Value) (l:List (Int×Bool×Value)),k≤n.toNat∧i=Aj k∧f_ N0 m w wr vl vc l cl∧l.length≤n.toNat∧n.toNat≤l.length∧∀j x,k≤j→l[j]?=some x→x.2.2=.slice none 0 0
def Lk3 (N0:Nat)(m:cW)(w:World)(_n:Int)(vl vc:Value)(u:Nat)(cl:List Int)(k:Nat)(z K:Int)(i:Value)(wr:World):Prop :=
 ∃(r:Nat) (l:List (Int×Bool×Value)) (vr:Value) (rl:List dI) (y:Bool),r≤(1+K).toNat∧i=Aj r∧lG N0 m w wr vl vc l cl vr rl∧l.length=u∧l[k]?=some (z,y,vr)∧rl.length≤r∧∀j x,k+1≤j→l[j]?=some x→x.2.2=.slice none 0 0
def Zkw (N0:Nat)(m:cW)(w:World)(e:Ending)(w':World):Prop :=
 ∃(u:Value) (A:Option Addr) (c:Nat) (l:List (Int×Bool×Value)),e=.returned u∧l.length≤6∧(Repr.row 186 (js N0)).rel w' w'.heap.size l [.slice A l.length c]∧Mk w' {m with c5:=.slice A l.length c}∧dX m.M w w'
theorem Td (N0:Nat)(m:cW)(w:World)(gA:Option Addr)(N gc:Nat)(h:Mk w m)(hN:N0≤m.M)(hc:m.c3=.slice gA N gc)(h9:1≤N)(h2:N≤1000)(h5:m.c5=.slice none 0 0) :
  Calls Tryz.prog 60 #[.pointer (some ⟨m.M,0,none⟩)] w (Zkw N0 m w):=by
 obtain⟨i1,ji,x2,x3,x1⟩:=info_parts Te;obtain⟨i2,li,y4,x0,h3⟩:=info_parts Ig;obtain⟨i3,ki,x4,y6,y1⟩:=info_parts Zu;have y2:=h.lt;have h0:=Aq h;have HC:=Aq hc;have q4:{m with c5:=Value.slice none 0 0} = m:=by rw[←h5]
 have y3:=Aq q4;clear h hc h5 q4;go_enter Tryz.func60,Tryz.ntmps60;go_wp2_with fail
 refine(Bk _ m _ h0.o (by omega) (by omega)).mono ?_;rintro e w1⟨n,u2,v3,rfl,H0,rn,-⟩;have Z:Lk1 N0 m w n (.slice none 0 0) (Aj 0) w1:=⟨0,_,[],[],by omega,rfl,⟨qz _ _ _ _,qz _ _ _ _,by rw[y3.o];exact H0,rn,hN,y2⟩,by simp,by simp,by simp,by simp⟩;have Q:=Aq Z;clear Z H0 rn h0;go_wp2_with fail
 go_loopw [3,4] (fun vc i wr=>Lk1 N0 m w n vc i wr) (fun _ i _=>n.toNat-(intOf i).toNat)
 case atStart=>exact Q.o
 case round =>
  clear Q;obtain⟨k,vl,l,cl,hk,rfl,d,u8,v2,v4,X⟩:=hrel;obtain⟨R,cc,rfl,-⟩:=d.ao.form;obtain⟨C,D,rfl,-⟩:=d.kG.form;have p:=Aq d;have c:=Aq X;clear d X;by_cases u3:(k:Int)<n
  ·go_wp2_with fail
   refine(Bk _ {m with c5:=.slice C l.length D} _ (p.o.alloc _).am (by omega) (by omega)).mono ?_;rintro e w2⟨r,y7,u4,rfl,G,S,-⟩;have hK:=(p.o.alloc _).next G S;have W:aH w2 wr.heap.size 3 #[Aj 1,Aj 2,Aj 3,Aj 4,Aj 4,Aj 5,Aj 6,Aj 7,Aj 8,Aj 1]:=S.aG (qv _ _ _) (by have:=p.o.fr.size;show wr.heap.size≠m.M;omega);have _hlt2:=W.lt;obtain⟨f,rfl⟩:=Ds y7;obtain⟨q,v0,u9,y9⟩:∃q:Int,1≤q∧q≤8∧w2.cell? ⟨wr.heap.size,f,none⟩=some (Aj q):=by
    rw[W.cell];have:f=0∨f=1∨f=2∨f=3∨f=4∨f=5∨f=6∨f=7∨f=8∨f=9:=by omega
    rcases this with rfl|rfl|rfl|rfl|rfl|rfl|rfl|rfl|rfl|rfl <;> exact⟨_,by decide,by decide,rfl⟩
   have Y:=hK.drew;have y0:=Aq hK;clear hK W G S p;go_wp2_with fail
   clear y9;have U:w2.drew.cell? ⟨m.M,5,none⟩=some (.slice C l.length D):=Y.gU;refine Bs (fun i=>!([8,11,12,16]:List Nat).contains i) (fun i=>([5]:List Nat).contains i) (fun i=>([8,11]:List Nat).contains i) [0,1,2,3,4,5,6,7,8,9,10,11,12,13,14,15,16] (fun w'=>w'.cell? ⟨m.M,5,none⟩=some (.slice C l.length D)) (by kernel_rfl) (by kernel_rfl) (by kernel_rfl) (by kernel_rfl) ?_
   iterate 5 (refine Be ?_)
   refine Bj U ?_;refine Be ?_;refine Be ?_;refine Bi fun K z=>?_;go_simp
   refine(Bk _ {m with c5:=.slice C l.length D} _ Y.am (by omega) (by omega)).mono ?_;rintro e w3⟨b,z7,v5,rfl,HX,HN,-⟩;have HI:=Y.next HX HN;dsimp only;refine z _ _ (fun _=>HI.gU) ?_;clear z K;refine Be ?_;refine Be ?_;refine Bi fun K z=>?_;go_simp
   have E:=HI.alloc (.cells #[Aj q,.bool (b==0),.slice none 0 0] 186);refine z _ _ (fun _=>E.gU) ?_;clear z K;refine Bi fun K z=>?_
   refine Df _ rfl (.tmp 26) (.tmp 32) _ rfl (js N0) w.heap.size 186 i1 _ 40 Tryz.underlying59 ji x2 x3 x1 rfl (show 0<3 by decide) (by simp[js]) (by omega) (.slice C l.length D) l rfl E.kG w3.heap.size [_,_,_] (q,(b==0),.slice none 0 0) rfl (qv _ _ _) ⟨rfl,(by unfold bS;simp only;omega),_,_,_,rfl⟩ (by unfold maxLen;omega) (by omega) (by have:=E.fr.size;omega) ?_;intro A4 c4 T Ac gn;obtain⟨B,V⟩:=E.nD Ac gn;have b0:=B.cells.1 5 (by omega);have b1:=B.cells.2 5;have I:=B.lt;simp only[Nat.reduceSub,Az,Bc,Ay]at b0 I;refine Bh z ?_;clear z K
   iterate 3 (refine Be ?_)
   refine Bi fun K z=>?_;go_simp
   refine Bh z ?_;clear z K;refine Bb ?_;have X:∀x∈l++[(q,(b==0),Value.slice none 0 0)],x.2.2=.slice none 0 0:=by
    intro x y;rcases List.mem_append.1 y with y|y
    ·exact c.o x y
    ·simp only[oZ]at y;subst y;rfl
   have hS:=Aq X;obtain⟨w5,Al⟩:∃w5,w5=T.setCell ⟨m.M,5,none⟩ (.slice A4 (l.length+1) c4):=⟨_,rfl⟩;rw[←Al]at V ⊢;have l2:=Aq V;have _hsz5:=V.fr.size;clear Al V E HI Y HX HN B Ac gn X y0 c b0 b1 I U;by_cases u5:q≤4
   ·go_wp2_with (at_builtin;refine Ee _ rfl (.tmp 39) (.tmp 41) _ rfl (Repr.int (N0:=N0)) w.heap.size 3 i2 _ 8 Tryz.underlying22 li y4 x0 h3 rfl (show 0<1 by decide) (by simp[Repr.int]) (by omega) (.slice R cl.length cc) cl rfl (l2.o.alloc _).ao w5.heap.size [_] (k:Int) rfl (qv _ _ _) ⟨rfl,(by unfold bS;omega)⟩ (by unfold maxLen;omega) (by omega) (by simp;omega) ?_;intro A6 c6 w6 kd hx)
    have J:=(l2.o.alloc _).gD kd hx;refine⟨⟨k+1,_,_,_,by omega,by go_num,J,by simp;omega,by simp;omega,by simp;omega,hS.o⟩,by simp[intOf];omega⟩
   ·go_wp2_with fail
    refine⟨⟨k+1,_,_,_,by omega,by go_num,l2.o,by simp;omega,by simp;omega,by omega,hS.o⟩,by simp[intOf];omega⟩
  ·have _hkn:n.toNat≤k:=by omega
   have Z:Lk2 N0 m w n (.slice R cl.length cc) cl (Aj 0) wr:=⟨0,_,l,by omega,rfl,p.o,by omega,by omega,fun _ x _ y=>c.o x (Bx y)⟩;have Q:=Aq Z;clear Z p c;go_wp2_with fail
   go_loopw [6] (fun i wr=>Lk2 N0 m w n (.slice R cl.length cc) cl i wr) (fun i _=>n.toNat-(intOf i).toNat)
   case atStart=>exact Q.o
   case round =>
    clear Q;obtain⟨k2,vl,s,u7,rfl,d,z0,x5,X⟩:=hrel;obtain⟨h1,P,rfl,-⟩:=d.kG.form;have p:=Aq d;have c:=Aq X;clear d X;by_cases v1:(k2:Int)<n
    ·obtain⟨⟨q,ig,u⟩,y⟩:∃x,s[k2]?=some x:=⟨_,Bg (by omega)⟩;have hu:u=.slice none 0 0:=c.o k2 _ Aw y;subst hu;have H:=Aq y;clear y;obtain⟨g,dA,_,_,hv,_⟩:=p.o.kG.elem H.o;have hA:h1=some ⟨g,0,none⟩:=by injection hv
     subst hA;clear hv;obtain⟨q1,q2,q3,O,q5,q6⟩:=p.o.elem H.o rfl;have q0:=p.o.gU;have _hkl:(k2:Int)<(s.length:Int):=by omega
     have q7:=p.o.am.lt;simp only at q7;unfold bS at q3;by_cases h7:7≤q
     ·go_wp2_with fail
      refine⟨⟨k2+1,_,s,by omega,by go_num,p.o,z0,x5,fun j x _ y=>c.o j x (by omega) y⟩,by simp[intOf];omega⟩
     ·go_wp2_with fail
      refine(Bk _ {m with c5:=.slice (some ⟨g,0,none⟩) s.length P} _ p.o.am (by omega) (by omega)).mono ?_;rintro e w2⟨K,u1,z8,rfl,G,S,-⟩;have Z:Lk3 N0 m w n (.slice (some ⟨g,0,none⟩) s.length P) (.slice R cl.length cc) s.length cl k2 q K (Aj 0) w2:=⟨0,s,.slice none 0 0,[],ig,by omega,rfl,⟨p.o.next G S,qz _ _ _ _⟩,rfl,H.o,by simp,fun j x _ y=>c.o j x (by omega) y⟩;have Q:=Aq Z;clear Z G S p H c q0 q1 q2 O q5 q6 q7;go_wp2_with fail
      go_loopw [8] (fun i wr=>Lk3 N0 m w n (.slice (some ⟨g,0,none⟩) s.length P) (.slice R cl.length cc) s.length cl k2 q K i wr) (fun i _=>(1+K).toNat-(intOf i).toNat)
      case atStart=>exact Q.o
      case round =>
       clear Q;obtain⟨r,F,vr,rl,w4,hr,rfl,d,hI,y,z9,X⟩:=hrel;obtain⟨Ar,rc,rfl,-⟩:=d.r.form;have p:=Aq d;have H:=Aq y;have c:=Aq X;have L:=Aq hI;clear d y X hI;by_cases u0:(r:Int)<1+K
       ·go_upto_block 5 with(fail)
        go_cut [] (fun wx=>Lk3 N0 m w n (.slice (some ⟨g,0,none⟩) s.length P) (.slice R cl.length cc) s.length cl k2 q K (Aj (r+1:Nat)) wx)
        case first =>
         have Y:=p.o.drew;obtain⟨q1,q2,-,O,q5,q6⟩:=Y.a.elem H.o rfl;have U:(fun w':World=>w'.cell? ⟨m.M,5,none⟩=some (.slice (some ⟨g,0,none⟩) s.length P)∧w'.cell? ⟨g,k2*3,none⟩=some (Aj q)∧w'.cell? ⟨g,k2*3+2,none⟩=some (.slice Ar rl.length rc)) wr.drew:=⟨Y.a.gU,O,q5⟩;obtain⟨cf,z3,u6,c1,c2,x8⟩:=Y.a.ao.form;have _hMne:m.M≠g:=by omega
         go_wp2_with fail
         refine Bs (fun i=>!([26,27,28,31]:List Nat).contains i) (fun i=>([4,10,14,20,24]:List Nat).contains i) (fun i=>([26,27,28]:List Nat).contains i) [0,1,2,3,4,5,6,7,8,9,10,11,12,13,14,15,16,17,18,19,20,21,22,23,24,25,26,27,28,29,30,31] (fun w':World=>w'.cell? ⟨m.M,5,none⟩=some (.slice (some ⟨g,0,none⟩) s.length P)∧w'.cell? ⟨g,k2*3,none⟩=some (Aj q)∧w'.cell? ⟨g,k2*3+2,none⟩=some (.slice Ar rl.length rc)) (by kernel_rfl) (by kernel_rfl) (by kernel_rfl) (by kernel_rfl) ?_
         iterate 4 (refine Be ?_)
         refine Bj U ?_
         iterate 5 (refine Be ?_)
         refine Bj U ?_
         iterate 3 (refine Be ?_)
         refine Bj U ?_
         iterate 5 (refine Be ?_)
         refine Bj U ?_
         iterate 3 (refine Be ?_)
         refine Bj U ?_;refine Be ?_;refine Bi fun K z=>?_;go_simp
         refine(Zev N0 {m with c5:=.slice (some ⟨g,0,none⟩) s.length P} _ q R cc cl gA N gc Y.a.am hN HC.o h9 h2 x8 (by omega)).mono ?_;rintro e T⟨rd,vb,vi,va,vo,vc,rfl,l3,B,y8⟩;obtain⟨⟨b1,I,b3,rfl⟩,⟨b4,b5,b6,rfl⟩,⟨b7,b8,b9,rfl⟩,⟨d1,d2,d3,rfl⟩,⟨d4,d5,d6,rfl⟩⟩:=Sh l3;have V:=Y.next B y8;have lc:=V.a.elem H.o rfl;dsimp only;refine z _ _ (fun _=>⟨V.a.gU,lc.2.2.2.1,lc.2.2.2.2.1⟩) ?_;clear z K;refine Bi fun K z=>?_;go_simp
         have A:=V.alloc (.cells #[.slice b1 I b3,.slice b4 b5 b6,.slice b7 b8 b9,.slice d1 d2 d3,.slice d4 d5 d6,Aj rd.x] 190);have b2:=A.a.elem H.o rfl;refine z _ _ (fun _=>⟨A.a.gU,b2.2.2.2.1,b2.2.2.2.2.1⟩) ?_;clear z K;refine Bi fun K z=>?_
         refine Df _ rfl (.tmp 80) (.tmp 93) _ rfl (Hi N0) w.heap.size 190 i3 _ 128 Tryz.underlying184 ki x4 y6 y1 rfl (show 0<6 by decide) (Gi N0) (by omega) (.slice Ar rl.length rc) rl rfl A.r T.heap.size [_,_,_,_,_,_] rd rfl (qv _ _ _) ((Hi N0).a_ ((Hi N0).below l3 (aI.alloc Aw _) Aw) (by simp)) (by unfold maxLen;omega) (by omega) (by have:=A.a.fr.size;omega) ?_;intro A6 c6 w6 kd hx;obtain⟨J,h8,x7⟩:=A.a.kI A.r kd hx H.o rfl;have x6:=J.elem H.o rfl;obtain⟨z1,z2,-,z4,z5,z6⟩:=x6;refine z _ _ (fun _=>⟨J.gU,z4,z5⟩) ?_;clear z K;refine Be ?_;refine Be ?_;refine Bi fun K z=>?_;go_simp
         refine Bh z ?_;clear z K;refine Bb ?_;go_wp2_with fail
         go_meet;exact⟨r+1,F.set k2 (q,w4,.slice A6 (rl.length+1) c6),_,rl++[rd],w4,by omega,rfl,⟨h8,x7⟩,by simp[L.o],by rw[pQ (by rw[L.o];omega)],by simp;omega,fun j x hj y=>c.o j x hj (by rw[List.getElem?_set_ne (by omega)]at y;exact y)⟩
        case rest =>
         have h6:=Aq hcut;clear hcut p H c L;go_wp2_with fail
         go_roundw
         case rel=>have h:=h6.o;rw[show ((r+1:Nat):Int)=(r:Int)+1 from by omega]at h;exact h
         case measure=>simp[intOf];omega
       ·have x9:F.length=s.length:=L.o;have h4:F.length≤n.toNat:=by omega
        have y5:n.toNat≤F.length:=by omega
        clear x9;go_wp2_with fail
        refine⟨⟨k2+1,_,F,by omega,by go_num,p.o.a,h4,y5,fun j x hj y=>c.o j x hj y⟩,by simp[intOf];omega⟩
    ·go_wp2;refine bodyPost_end (v:=.tuple #[]) (by simp[results,Tryz.results60,go_sem]) rfl ?_;exact⟨_,h1,P,s,rfl,by omega,p.o.kG.rel,p.o.am,p.o.fr⟩
end
section
open Go.RowKit
def Qb (N0:Nat):Repr N0 Value where
 size:=1
 df:=[]
 rel _ _ v cs:=cs=[v]∧∃A n c,v=.slice A n c
 len h:=by obtain⟨rfl,_⟩:=h;rfl
 aQ h _:=h
 a_ h _:=h
 eB h:=by obtain⟨rfl,A,n,c,e⟩:=h;rw[e];simp[Value.oneCell']
def Zdf (N0:Nat):Repr N0 (ByteArray×Int×Int×Int):=Repr.bi Repr.str (Repr.bi Repr.int (Repr.bi Repr.int Repr.int))
def Zgc (N0:Nat):Repr N0 (ByteArray×Value):=Repr.bi Repr.str (Qb N0)
def Zkq (N0:Nat):Repr N0 (Int×Int):=Repr.bi Repr.int Repr.int
theorem Zde:(Tryz.prog.info? 124).map (fun i=>(i.zero,i.size,i.bytes))=some (some (.agg #[.string ByteArray.empty,Aj 0,Aj 0,Aj 0]),4,40):=by kernel_rfl
theorem Yv:(Tryz.prog.info? 129).map (fun i=>(i.zero,i.size,i.bytes))=some (some (.agg #[Aj 0,Aj 0,Aj 0]),3,24):=by kernel_rfl
theorem Si:(Tryz.prog.info? 127).map (fun i=>(i.zero,i.size,i.bytes))=some (some (.agg #[.slice none 0 0]),1,24):=by kernel_rfl
theorem Zcu:(Tryz.prog.info? 134).map (fun i=>(i.zero,i.size,i.bytes))=some (some (.agg #[Aj 0,Aj 0]),2,16):=by kernel_rfl
theorem Rc:(Tryz.prog.info? 138).map (fun i=>(i.zero,i.size,i.bytes))=some (some (.agg #[.string ByteArray.empty,.slice none 0 0]),2,40):=by kernel_rfl
theorem Mk.set2 {w:World}{m:cW}(h:Mk w m)(v:Value):Mk (w.setCell ⟨m.M,2,none⟩ v) {m with c2:=v} := by
 obtain⟨aK,p,y,x,z,xs,k,u⟩:=h;exact⟨aK,p,y,x,by simpa using z.aZ 2 v,xs,k.setCell x _,u⟩
theorem Mk.fO {w:World}{m:cW}(h:Mk w m)(v:Value):Mk (w.setCell ⟨m.M,4,none⟩ v) {m with c4:=v} := by
 obtain⟨aK,p,y,x,z,xs,k,u⟩:=h;exact⟨aK,p,y,x,by simpa using z.aZ 4 v,xs,k.setCell x _,u⟩
theorem Mk.set6 {w:World}{m:cW}(h:Mk w m)(v:Value):Mk (w.setCell ⟨m.M,6,none⟩ v) {m with c6:=v} := by
 obtain⟨aK,p,y,x,z,xs,k,u⟩:=h;exact⟨aK,p,y,x,by simpa using z.aZ 6 v,xs,k.setCell x _,u⟩
theorem Mk.set7 {w:World}{m:cW}(h:Mk w m)(v:Value):Mk (w.setCell ⟨m.M,7,none⟩ v) {m with c7:=v} := by
 obtain⟨aK,p,y,x,z,xs,k,u⟩:=h;exact⟨aK,p,y,x,by simpa using z.aZ 7 v,xs,k.setCell x _,u⟩
theorem Mk.set8 {w:World}{m:cW}(h:Mk w m)(v:Value):Mk (w.setCell ⟨m.M,8,none⟩ v) {m with c8:=v} := by
 obtain⟨aK,p,y,x,z,xs,k,u⟩:=h;exact⟨aK,p,y,x,by simpa using z.aZ 8 v,xs,k.setCell x _,u⟩
theorem Mk.nI {w:World}{m:cW}(h:Mk w m)(v:Value):Mk (w.setCell ⟨m.M,9,none⟩ v) {m with c9:=v} := by
 obtain⟨aK,p,y,x,z,xs,k,u⟩:=h;exact⟨aK,p,y,x,by simpa using z.aZ 9 v,xs,k.setCell x _,u⟩
theorem Mk.di {w:World}{m:cW}(h:Mk w m)(v:Value):Mk (w.setCell ⟨m.M,10,none⟩ v) {m with fS:=v} := by
 obtain⟨aK,p,y,x,z,xs,k,u⟩:=h;exact⟨aK,p,y,x,by simpa using z.aZ 10 v,xs,k.setCell x _,u⟩
theorem Mk.cell {w:World}{m:cW}(h:Mk w m) :
  w.cell? ⟨m.M,2,none⟩=some m.c2∧w.cell? ⟨m.M,3,none⟩=some m.c3∧w.cell? ⟨m.M,4,none⟩=some m.c4∧w.cell? ⟨m.M,5,none⟩=some m.c5∧w.cell? ⟨m.M,6,none⟩=some m.c6∧w.cell? ⟨m.M,7,none⟩=some m.c7∧w.cell? ⟨m.M,8,none⟩=some m.c8∧w.cell? ⟨m.M,9,none⟩=some m.c9∧w.cell? ⟨m.M,10,none⟩=some m.fS∧w.cell? ⟨m.M,11,none⟩=some m.fa:=by
 have:=h.cells.1;refine⟨?_,?_,?_,?_,?_,?_,?_,?_,?_,?_⟩ <;> (rw[this _ (by omega)];rfl)
theorem dX.set (M:Nat)(w:World)(i:Nat)(u:Value):dX M w (w.setCell ⟨M,i,none⟩ u):=qJ (S:=fun k=>k=M) (p:=⟨M,i,none⟩) (qu _ w) (.inl rfl) _
abbrev qH:=@dX.set
def Jz:Array Value:=#[Aj 0,.slice none 0 0,.slice none 0 0,.slice none 0 0,.slice none 0 0,.slice none 0 0,.slice none 0 0,.slice none 0 0,.slice none 0 0]
structure Deep (N0:Nat) (w:World) (rb B1 M:Nat) (v3 v9 v10:Value) (gl:List dW) (fl:List (List (Int×Int))) (cl:List Int) (wx:World):Prop where
 gl:(Repr.row 73 (Fv N0)).rel wx B1 gl [v3]
 fl:(Repr.row 24 (Fk N0)).rel wx B1 fl [v9]
 cl:(Ei N0).rel wx B1 cl [v10]
 lQ:aH wx rb 64 Jz
 below:Below w.heap.size w wx
 hM:N0≤w.heap.size∧w.heap.size≤rb∧rb<M∧M<B1∧B1≤wx.heap.size
section
variable {N0 : Nat} {w wx wy : World} {rb B1 M : Nat} {v3 v9 v10 : Value} {gl : List dW} {fl : List (List (Int × Int))} {cl : List Int}
theorem Zkd {α:Type}(R:Repr N0 α){a:α}{cs:List Value}(h:R.rel wx B1 a cs){p:Array Value}(z:aH wx M 121 p)(q:121 ∉ R.df)(s:N0≤M) (r:∀g,g<B1→g≠M→wy.heap[g]?=wx.heap[g]?):R.rel wy B1 a cs :=
 R.aQ h fun g t xs b v y x=>by
  by_cases u:g=M
  ·subst u;exfalso;rcases y with y|y
   ·omega
   ·unfold aH at z;rw[z]at x
    injection x with x
    injection x with _ k
    exact q (k ▸ y)
  ·rw[r g v u];exact x
theorem Nc (N0:Nat):121 ∉ (Repr.row 73 (Fv N0)).df:=Gt N0
theorem Deep.aQ (h:Deep N0 w rb B1 M v3 v9 v10 gl fl cl wx){z:Array Value}(y:aH wx M 121 z) (x:∀g,g<B1→g≠M→wy.heap[g]?=wx.heap[g]?) (v:wx.heap.size≤wy.heap.size) (u:Below w.heap.size w wy):Deep N0 w rb B1 M v3 v9 v10 gl fl cl wy:=by
 have _hM:=h.hM;exact⟨Zkd _ h.gl y (Nc N0) (by omega) x,Zkd _ h.fl y (by show 121 ∉ [24,96];decide) (by omega) x,Zkd _ h.cl y (by show 121 ∉ [3];decide) (by omega) x,
  (x rb (by omega) (by omega)).trans h.lQ,u,by omega⟩
theorem Deep.fr (h:Deep N0 w rb B1 M v3 v9 v10 gl fl cl wx){y:Array Value}(z:aH wx M 121 y)(x:dX M wx wy):Deep N0 w rb B1 M v3 v9 v10 gl fl cl wy:=by
 have _hM:=h.hM;exact h.aQ z (fun g _ u=>x.block g (by omega) u) x.size (h.below.trans (x.below (by omega) fun k v=>by omega))
theorem Deep.fd (h:Deep N0 w rb B1 M v3 v9 v10 gl fl cl wx){y:Array Value}(z:aH wx M 121 y){α:Type}{R:Repr N0 α}{t:TypeId}{v:Value}{l:List α}(k:aM R t B1 wx v l)(x:wx.grownBy wy v.ownBlock):Deep N0 w rb B1 M v3 v9 v10 gl fl cl wy:=by
 have _hM:=h.hM;exact h.aQ z (fun g _ _=>x.block g (by omega) fun e=>by have:=(k.block e.symm).1;omega) x.size (Rq k h.below x (by omega) (by omega))
theorem Deep.mR (h:Deep N0 w rb B1 M v3 v9 v10 gl fl cl wx){x:Array Value}(y:aH wx M 121 x){k:Nat}(z:B1≤k)(i:Nat)(u:Value):Deep N0 w rb B1 M v3 v9 v10 gl fl cl (wx.setCell ⟨k,i,none⟩ u):=by
 have _hM:=h.hM;exact h.aQ y (fun _ _ _=>Bp _ _ _ _ (by simp;omega)) (by rw[Br];exact Aw) (h.below.setCell (by simp;omega) _)
theorem Deep.dP (h:Deep N0 w rb B1 M v3 v9 v10 gl fl cl wx):Deep N0 w rb wx.heap.size M v3 v9 v10 gl fl cl wx:=by
 have hM:=h.hM;exact⟨Repr.a_ _ h.gl hM.2.2.2.2,Repr.a_ _ h.fl hM.2.2.2.2,Repr.a_ _ h.cl hM.2.2.2.2,h.lQ,h.below,by omega⟩
end
structure eR {N0:Nat} {α:Type} (R:Repr N0 α) (t:TypeId) (w:World) (rb B1:Nat) (m:cW) (v3 v9 v10:Value) (gl:List dW) (fl:List (List (Int×Int))) (cl:List Int) (v:Value) (l:List α) (wx:World):Prop where
 row:aM R t B1 wx v l
 dp:Deep N0 w rb B1 m.M v3 v9 v10 gl fl cl wx
 am:Mk wx m
 ht:121 ∉ t::R.df
section
variable {N0 : Nat} {α : Type} {R : Repr N0 α} {t : TypeId} {w wx wy : World} {rb B1 : Nat} {m m' : cW} {v3 v9 v10 v v' : Value} {gl : List dW} {fl : List (List (Int × Int))} {cl : List Int} {l l' : List α}
theorem eR.next (h:eR R t w rb B1 m v3 v9 v10 gl fl cl v l wx)(u:Mk wy m')(y:dX m.M wx wy)(z:m'.M=m.M:=by rfl):eR R t w rb B1 m' v3 v9 v10 gl fl cl v l wy:=by
 obtain⟨k,x⟩:=h.am.aG;have _hM:=h.dp.hM;exact⟨h.row.fr y x h.ht (by omega),by rw[z];exact h.dp.fr x y,u,h.ht⟩
theorem eR.alloc (h:eR R t w rb B1 m v3 v9 v10 gl fl cl v l wx)(o:Obj):eR R t w rb B1 m v3 v9 v10 gl fl cl v l (wx.alloc o):=h.next (h.am.alloc o) ((qu _ _).alloc o)
theorem eR.drew (h:eR R t w rb B1 m v3 v9 v10 gl fl cl v l wx):eR R t w rb B1 m v3 v9 v10 gl fl cl v l wx.drew:=h.next h.am (qu _ _).drew
theorem eR.push (h:eR R t w rb B1 m v3 v9 v10 gl fl cl v l wx)(y:aM R t B1 wy v' l')(x:wx.grownBy wy v.ownBlock):eR R t w rb B1 m v3 v9 v10 gl fl cl v' l' wy:=by
 obtain⟨u,z⟩:=h.am.aG;have _hM:=h.dp.hM;exact⟨y,h.dp.fd z h.row x,h.am.grown h.row x (fun e=>h.ht (e ▸ oD)) (by omega),h.ht⟩
theorem eR.start (R:Repr N0 α)(t:TypeId)(ht:121 ∉ t::R.df)(y:Mk wx m)(x:Deep N0 w rb B1 m.M v3 v9 v10 gl fl cl wx):eR R t w rb wx.heap.size m v3 v9 v10 gl fl cl (.slice none 0 0) [] wx:=⟨qz _ _ _ _,x.dP,y,ht⟩
abbrev qI:=@eR.start
theorem eR.mR (h:eR R t w rb B1 m v3 v9 v10 gl fl cl v l wx){k:Nat}{t0:TypeId}{xs:Array Value}(x:aH wx k t0 xs)(p:B1≤k)(z:t0 ∉ t::R.df)(i:Nat)(u:Value):eR R t w rb B1 m v3 v9 v10 gl fl cl v l (wx.setCell ⟨k,i,none⟩ u):=by
 obtain⟨q,y⟩:=h.am.aG;have _hM:=h.dp.hM;exact⟨h.row.setCell x z (by omega) _ _,h.dp.mR y p _ _,h.am.setCell (by simp;omega) _,h.ht⟩
theorem eR.kq (h:eR R t w rb B1 m v3 v9 v10 gl fl cl v l wx){k:Nat}{t0:TypeId}{xs:Array Value}(y:aH wx k t0 xs)(r:B1≤k)(z:∀x,v.ownBlock=some x→x≠k)(q:t0 ∉ R.df)(i:Nat)(u:Value):eR R t w rb B1 m v3 v9 v10 gl fl cl v l (wx.setCell ⟨k,i,none⟩ u):=by
 obtain⟨s,p⟩:=h.am.aG;have _hM:=h.dp.hM;exact⟨h.row.dE y z q (by omega) _ _,h.dp.mR p r _ _,h.am.setCell (by simp;omega) _,h.ht⟩
theorem eR.du (h:eR R t w rb B1 m v3 v9 v10 gl fl cl v l wx){β:Type}{y:Repr N0 β}{t':TypeId}{u:Value}{p:List β}(k:aM y t' B1 wx u p)(x:wx.grownBy wy u.ownBlock)(n1:121≠t')(q:t' ∉ t::R.df):eR R t w rb B1 m v3 v9 v10 gl fl cl v l wy:=by
 obtain⟨r,z⟩:=h.am.aG;have _hM:=h.dp.hM;exact⟨h.row.apart k x (by omega) q,h.dp.fd z k x,h.am.grown k x n1 (by omega),h.ht⟩
end
def jR (v:Value)(b:Nat):Prop:=∃A n c,v=.slice A n c∧n≤b
structure Weak (m:cW):Prop where
 c2:∃n,m.c2=Aj n∧bS n
 c4:jR m.c4 16
 c5:jR m.c5 6
 c6:jR m.c6 8
 c7:jR m.c7 2
 c8:jR m.c8 3
structure lU (m:cW) (p:Nat):Prop where
 c7:p<1→m.c7=.slice none 0 0
 c8:p<2→m.c8=.slice none 0 0
 c9:p<3→m.c9=.slice none 0 0
 fS:p<4→m.fS=.slice none 0 0
 c3:p<5→m.c3=.slice none 0 0
 c4:p<6→m.c4=.slice none 0 0
 c5:p<7→m.c5=.slice none 0 0
 c6:p<8→m.c6=.slice none 0 0
theorem lU.succ {m:cW}{p:Nat}(h:lU m p):lU m (p+1):=⟨fun _=>h.c7 (by omega),fun _=>h.c8 (by omega),fun _=>h.c9 (by omega),fun _=>h.fS (by omega),fun _=>h.c3 (by omega),fun _=>h.c4 (by omega),fun _=>h.c5 (by omega),fun _=>h.c6 (by omega)⟩
structure jV (N0:Nat) (w:World) (rb M:Nat) (g0 p:Nat) (m:cW) (gl:List dW) (fl:List (List (Int×Int))) (cl:List Int) (wx:World):Prop where
 am:Mk wx {m with M:=M}
 dp:Deep N0 w rb wx.heap.size M m.c3 m.c9 m.fS gl fl cl wx
 wk:Weak m
 nil:lU m p
 g0:g0≤gl.length
 g1:gl.length≤10
 gb:∀g∈gl,g.bq.length≤10∧Jd g.dq
 f1:fl.length≤2
 fb:ei fl
 cb:cl.length≤3
def mE (N0:Nat)(w:World)(rb M:Nat)(g0 p:Nat)(wx:World):Prop:=∃m gl fl cl,jV N0 w rb M g0 p m gl fl cl wx
section
variable {N0 : Nat} {w wx wy : World} {rb B1 M : Nat} {v3 v9 v10 v : Value} {gl : List dW} {fl : List (List (Int × Int))} {cl : List Int} {g0 p : Nat} {m : cW}
theorem jV.next (h:jV N0 w rb M g0 p m gl fl cl wx) (z:Mk wy {m with M:=M}) (y:dX M wx wy):jV N0 w rb M g0 p m gl fl cl wy:=by
 obtain⟨u,x⟩:=h.am.aG;exact⟨z,(h.dp.fr x y).dP,h.wk,h.nil,h.g0,h.g1,h.gb,h.f1,h.fb,h.cb⟩
theorem Deep.mX (h:Deep N0 w rb B1 M v3 v9 v10 gl fl cl wx){l:List dW} (x:(Repr.row 73 (Fv N0)).rel wx wx.heap.size l [v]):Deep N0 w rb wx.heap.size M v v9 v10 l fl cl wx:=⟨x,h.dP.fl,h.dP.cl,h.lQ,h.below,h.dP.hM⟩
theorem Deep.nI (h:Deep N0 w rb B1 M v3 v9 v10 gl fl cl wx) {l:List (List (Int×Int))} (x:(Repr.row 24 (Fk N0)).rel wx wx.heap.size l [v]):Deep N0 w rb wx.heap.size M v3 v v10 gl l cl wx:=⟨h.dP.gl,x,h.dP.cl,h.lQ,h.below,h.dP.hM⟩
theorem Deep.di (h:Deep N0 w rb B1 M v3 v9 v10 gl fl cl wx){l:List Int} (x:(Ei N0).rel wx wx.heap.size l [v]):Deep N0 w rb wx.heap.size M v3 v9 v gl fl l wx:=⟨h.dP.gl,h.dP.fl,x,h.lQ,h.below,h.dP.hM⟩
end
end
end Go.Proofs.YtnhebmgibiomnaaGreat

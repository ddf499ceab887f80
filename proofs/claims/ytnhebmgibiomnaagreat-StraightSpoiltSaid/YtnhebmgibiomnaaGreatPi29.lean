import Derived.Test.YtnhebmgibiomnaaGreatPi28
set_option linter.unusedVariables false
set_option linter.unusedSimpArgs false
set_option maxRecDepth 100000
set_option maxHeartbeats 8000000
namespace Go.Proofs.YtnhebmgibiomnaaGreat
section
open Go.RowKit
def Repr.iE {N0:Nat}{α:Type}(B1:Nat)(R:Repr N0 α):Repr B1 α where
 size:=R.size
 da:=[]
 rel w B a cs:=B1≤B∧R.rel w B1 a cs
 len h:=R.len h.2
 aQ h k:=⟨h.1,R.aQ h.2 fun g t xs y x _ z=>k g t xs y (Dq x h.1) (.inl x) z⟩
 aY h hB:=⟨Ex h.1 hB,h.2⟩
 du h:=R.du h.2
theorem af.iE {N0:Nat}{α:Type}{R:Repr N0 α}{t t':TypeId}{w:World}{B1 B:Nat}{A:Option Addr}{l:List α}(h:af R t w B1 A l)(d:B1≤B):af (Repr.iE B1 R) t' w B A l:=by
 obtain⟨y,p,z,s⟩:=h;refine⟨y,p,fun i a cs c x=>⟨d,z i a cs c x⟩,fun q=>?_⟩;obtain⟨b,off,xs,v,k,e,u,_,r,x⟩:=s q;exact⟨b,off,xs,v,k,e,by omega,.inl u,r,x⟩
theorem aK.ofOld {N0:Nat}{α:Type}{R:Repr N0 α}{t:TypeId}{w:World}{B1 aN:Nat}{v:Value}{l:List α} (h:aK (Repr.iE B1 R) t aN w v l):aK R t aN w v l:=by
 obtain⟨u,p,k,x⟩:=h;exact⟨u,p,k,fun i a cs y z=>R.aY (x i a cs y z).2 (x i a cs y z).1⟩
structure bv (N0:Nat) (B:Nat) (w:World) (A0 A1 A2:Option Addr) (c0 c1 c2:Nat) (fl:List (List (Int×Int))) (ml:List (Int×Int)) (cl:List Int) (size:Int):Prop where
 f:fl.length≤c0∧c0≤maxLen∧af (Em N0) 24 w B A0 fl
 m:ml.length≤c1∧c1≤maxLen∧af (Jp N0) 96 w B A1 ml
 c:cl.length≤c2∧c2≤maxLen∧af (Repr.int (N0:=N0)) 3 w B A2 cl
 s:bK size
 k:cl.length≤300
def Lv (N0:Nat)(w:World)(e:Ending)(w':World):Prop :=
 ∃u y z c0 v c2 fl x cl size,e=.returned (.agg #[.slice u (List.length fl) c0,.slice y (List.length x) v,.slice z (List.length cl) c2,Aj size])∧bv N0 w'.heap.size w' u y z c0 v c2 fl x cl size∧fl.length≤30∧(∀f∈fl,f.length≤300)∧x.length≤300∧Below w.heap.size w w'
theorem bv.below {N0 B:Nat}{w w':World}{p z v:Option Addr}{c0 q c2:Nat} {fl:List (List (Int×Int))} {u:List (Int×Int)} {cl:List Int} {size:Int} (h:bv N0 B w p z v c0 q c2 fl u cl size) {C:Nat} (y:Below C w w') (x:B≤C):bv N0 B w' p z v c0 q c2 fl u cl size :=
 ⟨⟨h.f.1,h.f.2.1,h.f.2.2.below y x⟩,⟨h.m.1,h.m.2.1,h.m.2.2.below y x⟩,⟨h.c.1,h.c.2.1,h.c.2.2.below y x⟩,h.s,h.k⟩
theorem bv.aY {N0 B B':Nat}{w:World}{v y u:Option Addr}{c0 p c2:Nat} {fl:List (List (Int×Int))} {z:List (Int×Int)} {cl:List Int} {size:Int} (h:bv N0 B w v y u c0 p c2 fl z cl size) (x:B≤B'):bv N0 B' w v y u c0 p c2 fl z cl size :=
 ⟨⟨h.f.1,h.f.2.1,h.f.2.2.aY x⟩,⟨h.m.1,h.m.2.1,h.m.2.2.aY x⟩,⟨h.c.1,h.c.2.1,h.c.2.2.aY x⟩,h.s,h.k⟩
theorem af.setCell {N0:Nat}{α:Type}{R:Repr N0 α}{t:TypeId}{w:World}{B:Nat}{A:Option Addr}{l:List α}(h:af R t w B A l){k:Nat}{t0:TypeId}{xs:Array Value}(v:aH w k t0 xs)(z:t0 ∉ t::R.da)(q:N0≤k)(i:Nat)(u:Value):af R t (w.setCell ⟨k,i,none⟩ u) B A l :=
 h.aQ fun g t' xs p _ x y=>by
  rcases x with x|x
  ·rw[Bq _ _ _ _ (by simp;omega)];exact y
  ·exact Hm v i u g t' xs p (fun e=>z (e ▸ x)) y
theorem bv.setCell {N0 B:Nat}{w:World}{p z r:Option Addr}{c0 q c2:Nat} {fl:List (List (Int×Int))} {v:List (Int×Int)} {cl:List Int} {size:Int} (h:bv N0 B w p z r c0 q c2 fl v cl size) {k:Nat} {xs:Array Value} (x:aH w k 26 xs) (y:N0≤k) (i:Nat) (u:Value):bv N0 B (w.setCell ⟨k,i,none⟩ u) p z r c0 q c2 fl v cl size :=
 ⟨⟨h.f.1,h.f.2.1,h.f.2.2.setCell x (by show 26 ∉ [24,96];decide) y _ _⟩,⟨h.m.1,h.m.2.1,h.m.2.2.setCell x (by show 26 ∉ [96];decide) y _ _⟩,⟨h.c.1,h.c.2.1,h.c.2.2.setCell x (by show 26 ∉ [3];decide) y _ _⟩,h.s,h.k⟩
def mX (N0:Nat)(w:World)(b:Nat)(wx:World):Prop :=
 ∃u y z c0 v c2 fl x cl size,aH wx b 26 #[.slice u (List.length fl) c0,.slice y (List.length x) v,.slice z (List.length cl) c2,Aj size]∧bv N0 wx.heap.size wx u y z c0 v c2 fl x cl size∧fl.length≤30∧(∀f∈fl,f.length≤300)∧x.length≤300∧Below w.heap.size w wx
theorem Ix (w:World)(a n:Int)(_ha:bK a)(y:1≤n)(z:n≤1000000000) :
  Calls Tryz.prog 31 #[Aj a,Aj n] w fun e w'=>∃r:Int,0≤r∧r<n∧e=.returned (Aj r)∧w'=w:=by
 have _ht1 : -n<a.tmod n:=by have:=Int.lt_tmod_of_pos a (show 0<n by omega);omega
 have _ht2:a.tmod n<n:=Int.tmod_lt_of_pos a (by omega);have x:0≤(a.tmod n+n) % n∧(a.tmod n+n) % n<n:=⟨pm _ (by omega),po _ (by omega)⟩;go_enter Tryz.func31,Tryz.ntmps31;go_wp2;go_ret;exact⟨_,x.1,x.2,rfl,rfl⟩
structure iD (N0:Nat) (w:World) (pv:Array Value) (q0 q1 q2 q3:Int) (fl:List (List (Int×Int))) (vl vc:Value) (cd:List (Int×Int)) (wx:World):Prop where
 pb:aH wx w.heap.size 26 pv
 qb:aH wx (w.heap.size+1) 54 #[Aj q0,Aj q1,Aj q2,Aj q3]
 rb:aH wx (w.heap.size+1+1) 26 #[.slice none 0 0,.slice none 0 0,.slice none 0 0,Aj 0]
 l:aK (Repr.iE w.heap.size (Em N0)) 24 w.heap.size wx vl fl
 aA:aK (Jp w.heap.size) 96 w.heap.size wx vc cd
 bl:Below w.heap.size w wx
section
variable {N0 : Nat} {w wx wy : World} {pv : Array Value} {q0 q1 q2 q3 : Int} {fl : List (List (Int × Int))} {vl vc : Value} {cd : List (Int × Int)}
theorem iD.below (h:iD N0 w pv q0 q1 q2 q3 fl vl vc cd wx)(x:Below wx.heap.size wx wy):iD N0 w pv q0 q1 q2 q3 fl vl vc cd wy :=
 ⟨h.pb.below x h.pb.lt,h.qb.below x h.qb.lt,h.rb.below x h.rb.lt,h.l.below x Aw,h.aA.below x Aw,h.bl.trans (x.mono h.bl.size)⟩
theorem iD.alloc (h:iD N0 w pv q0 q1 q2 q3 fl vl vc cd wx)(o:Obj):iD N0 w pv q0 q1 q2 q3 fl vl vc cd (wx.alloc o):=h.below (aI.alloc Aw _)
theorem iD.drew (h:iD N0 w pv q0 q1 q2 q3 fl vl vc cd wx):iD N0 w pv q0 q1 q2 q3 fl vl vc cd wx.drew:=h.below aI.drew
theorem iD.fU (h:iD N0 w pv q0 q1 q2 q3 fl vl vc cd wx){v0 v':Value} {c0 y:List (Int×Int)} (k:aK (Jp w.heap.size) 96 w.heap.size wx v0 c0) (x:wx.grownBy wy v0.ownBlock) (z:aK (Jp w.heap.size) 96 w.heap.size wy v' y):iD N0 w pv q0 q1 q2 q3 fl vl v' y wy :=
 ⟨h.pb.bj k x (by decide),h.qb.bj k x (by decide),h.rb.bj k x (by decide),h.l.apart k x Aw (by show 96 ∉ [24];decide),z,Km k h.bl x h.bl.size Aw⟩
theorem iD.l' (h:iD N0 w pv q0 q1 q2 q3 fl vl vc cd wx){v':Value} {y:List (List (Int×Int))} (x:wx.grownBy wy vl.ownBlock) (z:aK (Repr.iE w.heap.size (Em N0)) 24 w.heap.size wy v' y):iD N0 w pv q0 q1 q2 q3 y v' vc cd wy :=
 ⟨h.pb.bj h.l x (by decide),h.qb.bj h.l x (by decide),h.rb.bj h.l x (by decide),z,h.aA.apart h.l x Aw (by show 24 ∉ [96];decide),Km h.l h.bl x h.bl.size Aw⟩
theorem iD.jf (h:iD N0 w pv q0 q1 q2 q3 fl vl vc cd wx){g n cY i j:Nat}{a a':Int×Int} (b:cd[i]?=some a) (c:j<2) (u:Value) (s:∀cs,(Jp w.heap.size).rel wx wx.heap.size a cs→(Jp w.heap.size).rel wx wx.heap.size a' (cs.set j u)) (v:vc=.slice (some ⟨g,0,none⟩) n cY):iD N0 w pv q0 q1 q2 q3 fl vl vc (cd.set i a') (wx.setCell ⟨g,i*2+j,none⟩ u):=by
 obtain⟨p,xs,y⟩:=h.aA.aG v;have ne:∀(k:Nat) (t:TypeId) (z:Array Value),aH wx k t z→t≠96→k≠g:=fun k t z x q e=>by
  subst e;unfold aH at x y;rw[y]at x
  injection x with x
  injection x with _ r
  exact q r.symm
 exact⟨h.pb.cZ (ne _ _ _ h.pb (by decide)) _,h.qb.cZ (ne _ _ _ h.qb (by decide)) _,h.rb.cZ (ne _ _ _ h.rb (by decide)) _,h.l.setCell y (by show 96 ∉ [24];decide) p _ _,h.aA.upd b c u (by show 96 ∉ [];simp) Aw s v,h.bl.setCell (by simp;omega) _⟩
end
theorem Kk (w:World)(B:Nat)(x:B≤w.heap.size):aK (Jp B) 96 B (w.alloc (.cells #[] 96)) (.slice (some ⟨w.heap.size,0,none⟩) 0 0) []:=aK.empty _ (qG _ _ _) x
theorem af.jD {N0 B1:Nat}{t:TypeId}{w:World}{B:Nat}{A:Option Addr} {l:List (Int×Int)} (h:af (Jp N0) t w B1 A l) (a:B1≤B):af (Jp B1) t w B A l:=by
 obtain⟨x,k,y,r⟩:=h;refine⟨x,k,y,fun p=>?_⟩;obtain⟨b,off,xs,u,v,e,z,_,q,s⟩:=r p;exact⟨b,off,xs,u,v,e,by omega,.inl z,q,s⟩
theorem aK.jD {N0 u aN:Nat}{t:TypeId}{w:World}{v:Value} {l:List (Int×Int)} (h:aK (Jp u) t aN w v l):aK (Jp N0) t aN w v l:=by
 obtain⟨x,y,k,z⟩:=h;exact⟨x,y,k,z⟩
theorem Xc (N0:Nat)(w:World)(Z Y V:Option Addr)(c0 U c2:Nat) (fl:List (List (Int×Int))) (d:List (Int×Int)) (cl:List Int) (size q0 q1 q2 q3:Int) (hN:N0≤w.heap.size) (h:bv N0 w.heap.size w Z Y V c0 U c2 fl d cl size) (v8:bK q0) (a9:bK q1) (a3:bK q2) (v1:bK q3)
  (hf:fl.length≤30) (z3:∀f∈fl,f.length≤300) (hm:d.length≤300) :
  Calls Tryz.prog 29 #[.agg #[.slice Z fl.length c0,.slice Y d.length U,.slice V cl.length c2,Aj size],.agg #[Aj q0,Aj q1,Aj q2,Aj q3]] w (Lv N0 w):=by
 obtain⟨i0,hi,x5,z5,y7⟩:=info_parts Vs;obtain⟨i4,pi,a4,a2,b7⟩:=info_parts Li;have H:=Aq h;have A2:=Aq z3;clear h z3;obtain⟨w0,J⟩:∃w0,w0=((w.alloc (.cells #[.slice Z fl.length c0,.slice Y d.length U,.slice V cl.length c2,Aj size] 26)).alloc (.cells #[Aj q0,Aj q1,Aj q2,Aj q3] 54)).alloc (.cells #[.slice none 0 0,.slice none 0 0,.slice none 0 0,Aj 0] 26):=⟨_,rfl⟩;have hz:w0.heap.size=w.heap.size+1+1+1:=by rw[J];simp
 have x4:Below w.heap.size w w0:=by rw[J];exact((aI.alloc Aw _).alloc (by simp) _).alloc (by simp;omega) _
 have hv:aH w0 w.heap.size 26 #[.slice Z fl.length c0,.slice Y d.length U,.slice V cl.length c2,Aj size]:=by rw[J];exact((qG _ _ _).alloc _).alloc _
 have x3:aH w0 (w.heap.size+1) 54 #[Aj q0,Aj q1,Aj q2,Aj q3]:=by rw[J];exact(qH _ _ _ (by simp)).alloc _
 have z4:aH w0 (w.heap.size+1+1) 26 #[.slice none 0 0,.slice none 0 0,.slice none 0 0,Aj 0]:=by rw[J];exact qH _ _ _ (by simp)
 have x9:iD N0 w #[.slice Z fl.length c0,.slice Y d.length U,.slice V cl.length c2,Aj size] q0 q1 q2 q3 [] (.slice (some ⟨w0.heap.size,0,none⟩) 0 0) (.slice none 0 0) [] (w0.alloc (.cells #[] 24)) :=
  ⟨hv.alloc _,x3.alloc _,z4.alloc _,aK.empty _ (qG _ _ _) (by omega),qJ _ _ _ _,x4.alloc (by omega) _⟩
 have L:=Aq x9;have x0:=Aq J;have y:=(hv.alloc (.cells #[] 24)).cell;clear J x9 hv x3 z4;rw[x0.o]at y;have b2:=H.o;go_enter Tryz.func29,Tryz.ntmps29;go_upto_region 1 with(fail)
 go_cut [5] (fun v wx=>∃A Q,v=.slice A fl.length Q∧iD N0 w #[.slice Z fl.length c0,.slice Y d.length U,.slice V cl.length c2,Aj size] q0 q1 q2 q3 fl (.slice A fl.length Q) (.slice none 0 0) [] wx)
 case first =>
  go_wp2_with (at_builtin;rw[←x0.o];refine Gb _ rfl (.tmp 8) (.tmp 10) _ rfl (Repr.iE w.heap.size (Em N0)) w.heap.size 24 i4 _ 24 Tryz.underlying23 pi a4 a2 b7 rfl (show 0<1 by decide) (by show 24 ∉ [];simp) Aw (.slice (some ⟨w0.heap.size,0,none⟩) 0 0) [] (by simp[hz,go_sem]) L.o.l Z fl.length c0 fl rfl rfl 24 ((H.o.f.2.2.below L.o.bl Aw).iE L.o.bl.size) (by unfold maxLen;simp;omega) (by simp;omega) L.o.bl.size ?_;intro A Q w3 x6 v6)
  simp only[Bx,nz,le]at x6;go_meet;exact⟨A,Q,rfl,L.o.l' v6 x6⟩
 case rest =>
  clear L y x0 hz x4;obtain⟨A,Q,rfl,P⟩:=hcut;have z:=Aq P;have y:=P.qb.cell 0;have y2:=P.qb.lt;simp only[Az,Ay]at y;clear P b2;go_wp2_with fail
  refine(Ix _ q0 _ v8 (by omega) (by omega)).mono ?_;rintro e w4⟨k,x7,d7,rfl,rfl⟩;have y3:=z.o.pb.cell;have y4:=z.o.pb.lt;go_upto_region 3 with(fail)
  go_cut [7] (fun v wx=>∃r b,v=.slice r d.length b∧iD N0 w #[.slice Z fl.length c0,.slice Y d.length U,.slice V cl.length c2,Aj size] q0 q1 q2 q3 fl (.slice A fl.length Q) (.slice r d.length b) d wx)
  case first =>
   go_wp2_with (at_builtin;refine Gb _ rfl (.tmp 18) (.tmp 20) _ rfl (Jp w.heap.size) w.heap.size 96 i0 _ 16 Tryz.underlying24 hi x5 z5 y7 rfl (show 0<2 by decide) (by show 96 ∉ [];simp) Aw (.slice (some ⟨w4.heap.size,0,none⟩) 0 0) [] rfl (Kk _ _ z.o.bl.size) Y d.length U d rfl rfl 96 ((H.o.m.2.2.below (z.o.alloc _).bl Aw).jD (z.o.alloc _).bl.size) (by unfold maxLen;simp;omega) (by simp;omega) (z.o.alloc _).bl.size ?_;intro r b w5 z0 b6)
   simp only[Bx,nz,le]at z0;go_meet;exact⟨r,b,rfl,(z.o.alloc _).fU (Kk _ _ z.o.bl.size) b6 z0⟩
  case rest =>
   clear z y y2 y3 y4;obtain⟨r,b,rfl,P⟩:=hcut;have z:=Aq P;clear P;go_upto_if 25 with(fail)
   go_cut [7] (fun v wx=>∃r b cd,v=.slice r (List.length cd) b∧cd.length≤300∧iD N0 w #[.slice Z fl.length c0,.slice Y d.length U,.slice V cl.length c2,Aj size] q0 q1 q2 q3 fl (.slice A fl.length Q) (.slice r cd.length b) cd wx)
   case first =>
    by_cases hk:k<(fl.length:Int)
    ·obtain⟨kn,rfl⟩:=Dm x7;obtain⟨f,O⟩:∃f,fl[kn]?=some f:=⟨_,Bf (by omega)⟩;have v9:f.length≤300:=A2.o f (Bz O);obtain⟨g,cY,xs,cs,E,hS,A1,B,⟨d8,fA,fc,rfl,d9,d3,z2⟩,G,N⟩:=(z.o.alloc (.cells #[] 96)).l.elem O;have hA:A=some ⟨g,0,none⟩:=by injection E
     subst hA;have y:=G 0 _ rfl;simp only[Repr.iE,Em,Repr.row,ow,oh]at y;have v5:=Aq z2;clear E G N O z2 B;go_wp2_with (at_builtin;refine Gb _ rfl (.tmp 26) (.tmp 30) _ rfl (Jp w.heap.size) w.heap.size 96 i0 _ 16 Tryz.underlying24 hi x5 z5 y7 rfl (show 0<2 by decide) (by show 96 ∉ [];simp) Aw (.slice (some ⟨wc.heap.size,0,none⟩) 0 0) [] rfl (Kk _ _ z.o.bl.size) fA f.length fc f rfl rfl 96 (v5.o.jD (z.o.alloc _).bl.size) (by unfold maxLen;simp;omega) (by simp;omega) (z.o.alloc _).bl.size ?_;intro A6 c6 w6 x2 a5)
     simp only[Bx,nz,le]at x2;go_meet;exact⟨A6,c6,f,rfl,v9,(z.o.alloc _).fU (Kk _ _ z.o.bl.size) a5 x2⟩
    ·go_wp2_with fail
     go_meet;exact⟨r,b,d,rfl,hm,z.o⟩
   case rest =>
    clear z;obtain⟨r,b,cd,rfl,a7,P⟩:=hcut;have z:=Aq P;clear P;go_upto_if 34 with(fail)
    go_cut [] (fun wx=>∃X,List.length X=cd.length∧iD N0 w #[.slice Z fl.length c0,.slice Y d.length U,.slice V cl.length c2,Aj size] q0 q1 q2 q3 fl (.slice A fl.length Q) (.slice r cd.length b) X wx)
    case first =>
     by_cases d4:(0:Int)<cd.length
     ·have c3:=z.o.drew;have T:(fun w':World=>∀i,w'.cell? ⟨w.heap.size+1,i,none⟩=(#[Aj q0,Aj q1,Aj q2,Aj q3]:Array Value)[i]?) wc.drew:=c3.qb.cell;obtain⟨g,cY,xs,cs,E,hS,A1,B,hrel,G,N⟩:=c3.aA.elem (i:=0) (Bf (by omega));have hA:r=some ⟨g,0,none⟩:=by injection E
      subst hA;have _hgl':g<wc.heap.size:=A1;clear E hS A1 B hrel G N;go_wp2_with fail
      refine Bv (Cl [5,8,11,15]) (Bm [2,7,10]) (Bm [5,8,11]) [0,1,2,3,4,6,7,9,10,5,8,11,12,13,14,15] (fun w':World=>∀i,w'.cell? ⟨w.heap.size+1,i,none⟩=(#[Aj q0,Aj q1,Aj q2,Aj q3]:Array Value)[i]?) (by kernel_rfl) (by kernel_rfl) (by kernel_rfl) (by kernel_rfl) ?_;refine Be ?_;refine Be ?_;refine Bj T ?_
      iterate 3 (refine Be ?_)
      refine Bj T ?_;refine Be ?_;refine Bj T ?_;refine Bi fun K S=>?_;go_simp
      refine(Ix _ q1 _ a9 (by omega) (by omega)).mono ?_;rintro e w5⟨r1,b4,c9,rfl,rfl⟩;dsimp only;refine S _ _ (fun _=>T) ?_;clear S K;refine Bi fun K S=>?_;go_simp
      refine(Ix _ q2 _ a3 (by omega) (by omega)).mono ?_;rintro e w6⟨r2,b8,c4,rfl,rfl⟩;dsimp only;refine S _ _ (fun _=>T) ?_;clear S K;refine Bi fun K S=>?_;go_simp
      refine(Ix _ q3 _ v1 (by omega) (by omega)).mono ?_;rintro e w7⟨r3,d2,b9,rfl,rfl⟩;dsimp only;refine S _ _ (fun _=>T) ?_;clear S K;obtain⟨C,rfl⟩:=Dm b4;obtain⟨⟨a1,a0⟩,z7⟩:∃x,cd[C]?=some x:=⟨_,Bf (by omega)⟩;obtain⟨g',d1,xs',c8,b3,d5,d0,d6,x8,z8,y5⟩:=c3.aA.elem z7;have a6:g=g':=by injection b3 with n;injection n with n;injection n with n
      subst a6;obtain rfl:=Pv x8;have b0:=z8 0 _ rfl;have b1:=z8 1 _ rfl;simp only[Jp,Repr.bi,Repr.int,oh,Nat.reduceAdd]at b0 b1;have a8:=Zgg x8;have b5:=c3.jf (a':=(r2,a0)) (j:=0) z7 (by omega) (Aj r2) (fun cs h=>by obtain rfl:=Pv h;exact Tu _ _ _ _ _ (by unfold bK;omega) a8.2) rfl;have y8:=b5.jf (i:=C) (a:=(r2,a0)) (a':=(r2,IntKind.i64.wrap (r3-2))) (j:=1) (by rw[pO (by omega)]) (by omega) (Aj (IntKind.i64.wrap (r3-2))) (fun cs h=>by obtain rfl:=Pv h;exact Tu _ _ _ _ _ (by unfold bK;omega) (Fs _)) rfl;simp only[oh]at y8;have f0:=y5 (C*2);have f1:=y5 (C*2+1);have _b0':wc.cell? ⟨g,C*2,none⟩=some (Aj a1):=b0;have _b1':wc.cell? ⟨g,C*2+1,none⟩=some (Aj a0):=b1;have _f0':wc.frozen? ⟨g,C*2,none⟩=false:=f0;have _f1':wc.frozen? ⟨g,C*2+1,none⟩=false:=f1
      iterate 3 (refine Be ?_)
      refine Bi fun K S=>?_;go_simp
      refine Bh S ?_;clear S K;refine Bb ?_;go_wp2_with fail
      go_meet;exact⟨_,by simp,y8⟩
     ·go_wp2_with fail
      go_meet;exact⟨cd,rfl,z.o⟩
    case rest =>
     clear z;obtain⟨X,z1,P⟩:=hcut;have h2:X.length≤300:=by omega
     obtain⟨A6,c6,y1,v3,v4,v2⟩:=P.aA.form;rw[←z1]at P ⊢;obtain⟨rfl,rfl⟩:r=A6∧b=c6:=by injection y1 with n I h3;exact⟨n,h3⟩
     have z:=Aq P;clear P y1 z1 a7 v2;go_upto_if 53 with(fail)
     go_cut [] (fun wx=>mX N0 w w.heap.size wx∧aH wx (w.heap.size+1+1) 26 #[.slice none 0 0,.slice none 0 0,.slice none 0 0,Aj 0])
     case first =>
      have _hM:=z.o.bl.size;by_cases hk:k<(fl.length:Int)
      ·obtain⟨kn,rfl⟩:=Dm x7;obtain⟨f,O⟩:∃f,fl[kn]?=some f:=⟨_,Bf (by omega)⟩;obtain⟨g,cY,xs,cs,E,hS,A1,B,hrel,G,N⟩:=z.o.l.elem O;have hA:A=some ⟨g,0,none⟩:=by injection E
       subst hA;obtain⟨u,rfl⟩:∃u,cs=[u]:=by obtain⟨_,fA,fc,rfl,_⟩:=hrel;exact⟨_,rfl⟩
       have y:=G 0 _ rfl;simp only[Repr.iE,Em,Repr.row,ow,oh]at y;have _y1:=N kn;have p0:=z.o.pb.cell 0;have _p1:=z.o.pb.frozen 0;have _p2:=z.o.pb.lt;simp only[Az,Ay]at p0;have v7:g≠w.heap.size:=by
        rintro rfl;have n:=z.o.pb;unfold aH at n B;rw[B]at n
        injection n with n
        injection n with _ I
        exact absurd I (by decide)
       have y0:aK (Em N0) 24 w.heap.size (wc.setCell ⟨g,kn,none⟩ (.slice r X.length b)) (.slice (some ⟨g,0,none⟩) fl.length Q) (fl.set kn X):=by
        have:=(z.o.l.ofOld).upd (j:=0) (a':=X) O (show 0<1 by decide) (.slice r X.length b) (by show 24 ∉ [96];decide) hN (fun cs h=>by
         obtain⟨fA,fc,rfl,_⟩:=h;obtain⟨A7,c7,M,HS,h1,c5⟩:=(z.o.aA.jD (N0:=N0)).form
         injection M with W z6 ml
         subst W ml;exact⟨_,_,rfl,HS,h1,c5⟩) rfl
        simpa [Em,Repr.row]using this
       have e7:=z.o.pb.cZ (p:=⟨g,kn,none⟩) (Ne.symm v7) (.slice r X.length b);have x1:=y0.setCell e7 (by show 26 ∉ [24,96];decide) hN 0 (.slice (some ⟨g,0,none⟩) fl.length Q);have R:Below w.heap.size w ((wc.setCell ⟨g,kn,none⟩ (.slice r X.length b)).setCell ⟨w.heap.size,0,none⟩ (.slice (some ⟨g,0,none⟩) fl.length Q)):=(z.o.bl.setCell (p:=⟨g,kn,none⟩) hS _).setCell (p:=⟨w.heap.size,0,none⟩) Aw _;have D:mX N0 w w.heap.size ((wc.setCell ⟨g,kn,none⟩ (.slice r X.length b)).setCell ⟨w.heap.size,0,none⟩ (.slice (some ⟨g,0,none⟩) fl.length Q)):=by
        obtain⟨A7,c7,M,HS,h1,c5⟩:=x1.form;have rn:(fl.set kn X).length=fl.length:=by simp
        rw[rn]at M
        injection M with W z6 ml
        subst W ml;refine⟨_,Y,V,_,U,c2,fl.set kn X,d,cl,size,by rw[rn];simpa using e7.aX 0 (.slice (some ⟨g,0,none⟩) fl.length Q),⟨⟨HS,h1,c5⟩,⟨H.o.m.1,H.o.m.2.1,(H.o.m.2.2.below R Aw).aY R.size⟩,⟨H.o.c.1,H.o.c.2.1,(H.o.c.2.2.below R Aw).aY R.size⟩,H.o.s,H.o.k⟩,by rw[rn];exact hf,fun f' v0=>?_,hm,R⟩;rcases oI v0 with h|h
        ·exact A2.o f' h
        ·subst h;exact h2
       have z9:w.heap.size+1+1≠g:=by
        rintro rfl;have n:=z.o.rb;unfold aH at n B;rw[B]at n
        injection n with n
        injection n with _ I
        exact absurd I (by decide)
       have A5:=(z.o.rb.cZ (p:=⟨g,kn,none⟩) z9 (.slice r X.length b)).cZ (p:=⟨w.heap.size,0,none⟩) (by simp only;omega) (.slice (some ⟨g,0,none⟩) fl.length Q);have HF:=Aq D;have A3:=Aq A5;clear D A5 R y0 x1 e7 E G N B hrel;go_wp2_with fail
       go_meet;exact⟨HF.o,A3.o⟩
      ·have p0:=z.o.pb.cell 1;have _p1:=z.o.pb.frozen 1;have _p2:=z.o.pb.lt;simp only[Az,Ay,Ba]at p0;have R:Below w.heap.size w (wc.setCell ⟨w.heap.size,1,none⟩ (.slice r X.length b)):=z.o.bl.setCell (p:=⟨w.heap.size,1,none⟩) Aw _;have y6:=(z.o.aA.jD (N0:=N0)).setCell z.o.pb (by show 26 ∉ [96];decide) hN 1 (.slice r X.length b);have D:mX N0 w w.heap.size (wc.setCell ⟨w.heap.size,1,none⟩ (.slice r X.length b)):=by
        obtain⟨A7,c7,M,HS,h1,c5⟩:=y6.form
        injection M with W z6 ml
        subst W ml;exact⟨Z,_,V,c0,_,c2,fl,X,cl,size,by simpa using z.o.pb.aX 1 (.slice r X.length b),⟨⟨H.o.f.1,H.o.f.2.1,(H.o.f.2.2.below R Aw).aY R.size⟩,⟨HS,h1,c5⟩,⟨H.o.c.1,H.o.c.2.1,(H.o.c.2.2.below R Aw).aY R.size⟩,H.o.s,H.o.k⟩,hf,A2.o,h2,R⟩
       have A5:=z.o.rb.cZ (p:=⟨w.heap.size,1,none⟩) (by simp only;omega) (.slice r X.length b);have HF:=Aq D;have A3:=Aq A5;clear D A5 R y6;go_wp2_with fail
       go_meet;exact⟨HF.o,A3.o⟩
     case rest =>
      clear z H A2 hf hm h2 v3 v4;obtain⟨⟨Z,Y,V,c0,U,c2,fl,d,cl,size,hK,y9,n,I,h3,h4⟩,F⟩:=hcut;have _p0:=hK.cell;have _p2:=hK.lt;have q:=F.cell;have _z:=F.frozen;have _q2:=F.lt;have D:Lv N0 w (.returned (.agg #[.slice Z fl.length c0,.slice Y d.length U,.slice V cl.length c2,Aj size])) ((((wc.setCell ⟨w.heap.size+1+1,0,none⟩ (.slice Z fl.length c0)).setCell ⟨w.heap.size+1+1,1,none⟩ (.slice Y d.length U)).setCell ⟨w.heap.size+1+1,2,none⟩ (.slice V cl.length c2)).setCell ⟨w.heap.size+1+1,3,none⟩ (Aj size)):=by
       have A0:N0≤w.heap.size+1+1:=by omega
       refine⟨Z,Y,V,c0,U,c2,fl,d,cl,size,rfl,?_,n,I,h3,?_⟩
       ·simp only[Br];exact(((y9.setCell F A0 0 _).setCell (F.aX 0 _) A0 1 _).setCell ((F.aX 0 _).aX 1 _) A0 2 _).setCell (((F.aX 0 _).aX 1 _).aX 2 _) A0 3 _
       ·have c1:w.heap.size≤w.heap.size+1+1:=by omega
        exact(((h4.setCell (p:=⟨w.heap.size+1+1,0,none⟩) c1 _).setCell (p:=⟨w.heap.size+1+1,1,none⟩) c1 _).setCell (p:=⟨w.heap.size+1+1,2,none⟩) c1 _).setCell (p:=⟨w.heap.size+1+1,3,none⟩) c1 _
      have HF:=Aq D;clear D hK y9 n I h3 h4 F;go_wp2;refine bodyPost_ret (v:=.agg #[.slice Z fl.length c0,.slice Y d.length U,.slice V cl.length c2,Aj size]) (by simp[results,Tryz.results29,go_sem,q]) rfl ?_;exact HF.o
end
section
open Go.RowKit
abbrev iU (w w':World):Prop:=Fr (fun _=>False) w w'
theorem af.cW {N0:Nat}{α:Type}{R:Repr N0 α}{t:TypeId}{w w':World}{B:Nat}{A:Option Addr}{l:List α}(h:af R t w B A l)(z:iU w w'):af R t w' B A l :=
 h.aQ fun g _ _ _ _ _ y=>by rw[z.block g (bO.1 y).1 (fun x=>x)];exact y
theorem iU.below {w w':World}{B:Nat}(h:iU w w')(y:B≤w.heap.size):Below B w w':=Fr.below h y fun _ _ x=>x
def ChV (N0 z:Nat)(n:Int)(y:Option Addr)(x gc:Nat)(gb go:Nat)(X:World)(i:Nat)(v:Value)(w:World):Prop :=
 match i with
 |0=>v=.pointer (some ⟨z,1,none⟩)
 |1=>v=.slice y x gc
 |2=>v=Aj n
 |3=>v=.pointer (some ⟨z,1,none⟩)
 |4=>v=.slice y x gc
 |5=>v=Aj x
 |6=>∃r:Nat,v=Aj r∧r<x
 |7=>∃r:Nat,v=.pointer (some ⟨gb,go+r*9,none⟩)∧r<x
 |8=>∃(s:ByteArray) (a:Int) (b:Bool) (e:Option Addr) (q kp:Nat) (H:Option Addr) (ne p:Nat) (u:Option Addr) (m k:Nat) (o:Option Addr) (g kn:Nat) (j:Option Addr) (f d:Nat) (A:Option Addr) (c:Nat) (l:List (Int×Int)),v=.agg #[.string s,Aj a,.bool b,.slice e q kp,.slice H ne p,.slice u m k,.slice o g kn,.slice j f d,.slice A l.length c]∧l.length≤c∧c≤maxLen∧af (Jp N0) 96 w X.heap.size A l∧Jl l
 |_=>∃b:Nat,v=.pointer (some ⟨b,0,none⟩)∧aH w b 73 #[.string ByteArray.empty,Aj 0,.bool false,.slice none 0 0,.slice none 0 0,.slice none 0 0,.slice none 0 0,.slice none 0 0,.slice none 0 0]∧X.heap.size≤b
def fK (N0:Nat)(w:World)(e:Ending)(w':World):Prop :=
 ∃u y z c0 v c2 fl x cl size,e=.returned (.agg #[.slice u (List.length fl) c0,.slice y (List.length x) v,.slice z (List.length cl) c2,Aj size])∧bv N0 w'.heap.size w' u y z c0 v c2 fl x cl size∧fl.length≤2∧ei fl∧Jl x∧Below w.heap.size w w'
theorem fK.weak {N0:Nat}{w:World}{e:Ending}{w':World}(h:fK N0 w e w'):Lv N0 w e w':=by
 obtain⟨p,y,b,c0,q,r,fl,z,cl,size,x,v,c,a,u,k⟩:=h;exact⟨p,y,b,c0,q,r,fl,z,cl,size,x,v,by omega,fun f s=>by have:=a.1 f s;omega,by have:=u.1;omega,k⟩
theorem Tn (N0:Nat)(w:World)(sA:Option Addr)(G sc:Nat)(xs:List Int)(hN:N0≤w.heap.size) (u:aE w w.heap.size 1 sA G (xs.map (Value.int .i64))) (hx:∀x∈xs,bK x) (c5:G≤1000000000000) :
  Calls Tryz.prog 12 #[.slice sA G sc] w (fK N0 w):=by
 have hr:=(u.alloc Aw (.cells #[.slice none 0 0,.slice none 0 0,.slice none 0 0,Aj 0] 26)).aY (Nat.le_of_lt (Nat.lt_of_lt_of_eq (Nat.lt_succ_self _) (by simp)):w.heap.size≤(w.alloc (.cells #[.slice none 0 0,.slice none 0 0,.slice none 0 0,Aj 0] 26)).heap.size);have a7:=Zbu N0 (w.alloc (.cells #[.slice none 0 0,.slice none 0 0,.slice none 0 0,Aj 0] 26)) sA G sc xs (by simp;omega) hr hx c5;have y6:=Aq a7;have HR:=Aq u;have HX:=Aq hx;clear u hr hx a7;go_enter Tryz.func12,Tryz.ntmps12;go_wp2_with fail
 refine y6.o.mono ?_;rintro e w2⟨n2,v3,v4,v5,v6,v7,v8,v9,v10,gl,fl,cl,rfl,f5,c3,ka,An,⟨A4,m4,k4,rfl,-⟩,⟨A5,m5,k5,rfl,-⟩,⟨A6,m6,k6,rfl,-⟩,⟨A7,m7,k7,rfl,-⟩,⟨A8,m8,k8,rfl,-⟩,f0,f3,b5,f6,D,y1,i⟩;obtain⟨gA,gc,e3,-,-,v2⟩:=c3;obtain⟨fA,fc,e9,e8,c8,h2⟩:=ka;obtain⟨cA,cc,y8,e1,c7,a3⟩:=An;obtain rfl:v3=.slice gA gl.length gc:=by injection e3
 obtain rfl:v9=.slice fA fl.length fc:=by injection e9
 obtain rfl:v10=.slice cA cl.length cc:=by injection y8
 clear e3 e9 y8;obtain⟨X,I⟩:∃X,X=w2.alloc (.cells #[Aj n2,.slice gA gl.length gc,.slice A4 m4 k4,.slice A5 m5 k5,.slice A6 m6 k6,.slice A7 m7 k7,.slice A8 m8 k8,.slice fA fl.length fc,.slice cA cl.length cc] 64):=⟨_,rfl⟩;have _hXz:X.heap.size=w2.heap.size+1:=by rw[I];simp
 have F:Below w2.heap.size w2 X:=by rw[I];exact aI.alloc Aw _
 have z9:aH X w2.heap.size 64 #[Aj n2,.slice gA gl.length gc,.slice A4 m4 k4,.slice A5 m5 k5,.slice A6 m6 k6,.slice A7 m7 k7,.slice A8 m8 k8,.slice fA fl.length fc,.slice cA cl.length cc]:=by rw[I];exact qG _ _ _
 have b8:=i.size;simp at b8;have Ap:Below w.heap.size w X:=(((ny w.heap.size w).alloc Aw _).trans (i.mono (by simp))).trans (F.mono (by omega));have a5:aH X w.heap.size 26 #[.slice none 0 0,.slice none 0 0,.slice none 0 0,Aj 0]:=((qG _ _ _).below i (by simp)).below F (by omega);have y0:=(v2.below F Aw).aY (show w2.heap.size≤X.heap.size by omega);have a8:=(h2.below F Aw).aY (show w2.heap.size≤X.heap.size by omega);have y7:=(a3.below F Aw).aY (show w2.heap.size≤X.heap.size by omega);have HG:=Aq y0;have y2:=Aq a8;have a9:=Aq y7;have hK:=Aq b5;have e5:=Aq D;have T:=Aq z9;have hv:=Aq a5;have na:=Aq Ap;have a6:=Aq I;have np:=Aq ((HR.o.below Ap Aw));clear v2 h2 a3 y0 a8 y7 b5 D z9 a5 Ap I F i y6 HR;go_upto_if 10 with(fail)
 rw[←a6.o];go_cut [4] (fun v wx=>∃n,v=Aj n∧bK n∧wx=X)
 case first =>
  by_cases h0:(0:Int)<G
  ·obtain⟨b,off,rfl,f1,j⟩:=np.o.2 (by omega);have c4:xs.length=G:=by have:=np.o.1;simpa using this
   obtain⟨x,Ae⟩:∃x,xs[0]?=some x:=⟨_,Bf (by omega)⟩;have d0:=j 0 (Aj x) (by rw[Cd,Ae];rfl);have d8:=HX.o x (Bz Ae);have _hbl:b<X.heap.size:=by omega
   simp only[oh]at d0;clear j Ae c4;go_wp2_with fail
   go_meet;exact⟨x,rfl,d8,rfl⟩
  ·go_wp2_with fail
   go_meet;exact⟨0,rfl,by unfold bK;omega,rfl⟩
 case rest =>
  obtain⟨n,rfl,hn,e4⟩:=hcut;subst e4;obtain⟨g0,hX⟩:∃g0,gl[0]?=some g0:=⟨_,Bf (by omega)⟩;obtain⟨gb,go,_,b7,f9,_,_⟩:=HG.o.get hX;subst b7;have HN:=Aq hn;clear hX hn a6;go_upto_region 5 with(fail)
  go_cut [5] (fun v wx=>∃(b:Nat) (A:Option Addr) (c:Nat) (l:List (Int×Int)),v=.pointer (some ⟨b,0,none⟩)∧wc.heap.size≤b∧b<wx.heap.size∧wx.cell? ⟨b,8,none⟩=some (.slice A l.length c)∧l.length≤c∧c≤maxLen∧af (Jp N0) 96 wx wc.heap.size A l∧Jl l∧Below wc.heap.size wc wx)
  case first =>
   go_wp2_with fail
   refine Et (ChV N0 w2.heap.size n (some ⟨gb,go,none⟩) gl.length gc gb go wc) (fun W=>iU wc W) iU (by as_aux_lemma=>kernel_rfl) (by as_aux_lemma=>kernel_rfl) 10 rfl ?_ ?_ ?_ ?_
   ·intro hd v W W' C u
    match hd with
    |0|1|2|3|4|5|6|7=>exact C
    |8=>obtain⟨s,a,b,R,Y,kp,V,ne,m,f,S,k,H,U,kn,d,Z,Q,A,c,l,e,E,J,h3,h4⟩:=C;exact⟨s,a,b,R,Y,kp,V,ne,m,f,S,k,H,U,kn,d,Z,Q,A,c,l,e,E,J,h3.cW u,h4⟩
    |hd+9=>obtain⟨g,e,hb,hg⟩:=C;exact⟨g,e,u.aG hb (fun x=>x),hg⟩
   ·exact(qF _ _).drew
   ·intro d9 ev val W hj B z P;have _e4:ev (.tmp 4)=Aj n:=z.dS 4 (by kernel_rfl);have _e3:ev (.tmp 3)=.pointer (some ⟨w2.heap.size,0,none⟩):=z.dS 3 (by kernel_rfl);have _ec:=z.const;have _ef:=z.func;have y1:=(B.aG T.o (fun x=>x)).cell 1;have _hcl:=(B.aG T.o (fun x=>x)).lt;simp only[Az,Ay,Ba]at y1;have y:=Aq B;clear B
    match d9,hj with
    |0,_ =>
     refine⟨_,rfl,rfl,?_⟩;unfold Bl;go_simp;exact⟨rfl,y.o,qF _ _⟩
    |1,_ =>
     have d0:=P 0 (by kernel_rfl);have x0:=z.bY 0 14;simp only[ChV]at d0;rw[d0]at x0;refine⟨_,rfl,rfl,?_⟩;unfold Bl;go_simp;exact⟨rfl,y.o,qF _ _⟩
    |2,_ =>
     refine⟨_,rfl,rfl,?_⟩;unfold Bl;go_simp;exact⟨rfl,y.o,qF _ _⟩
    |3,_ =>
     refine⟨_,rfl,rfl,?_⟩;unfold Bl;go_simp;exact⟨rfl,y.o,qF _ _⟩
    |4,_ =>
     have d3:=P 3 (by kernel_rfl);have x3:=z.bY 3 17;simp only[ChV]at d3;rw[d3]at x3;refine⟨_,rfl,rfl,?_⟩;unfold Bl;go_simp;exact⟨rfl,y.o,qF _ _⟩
    |5,_ =>
     have d4:=P 4 (by kernel_rfl);have x4:=z.bY 4 18;simp only[ChV]at d4;rw[d4]at x4;refine⟨_,rfl,rfl,?_⟩;unfold Bl;go_simp;exact⟨rfl,y.o,qF _ _⟩
    |6,_ =>
     have d2:=P 2 (by kernel_rfl);have x2:=z.bY 2 16;simp only[ChV]at d2;have d5:=P 5 (by kernel_rfl);have x5:=z.bY 5 19;simp only[ChV]at d5;rw[d2]at x2;rw[d5]at x5;refine⟨_,rfl,rfl,?_⟩;unfold Bl;go_simp;refine(Ix _ n _ HN.o (by omega) (by omega)).mono ?_;rintro e w5⟨r,y9,hr,rfl,rfl⟩;obtain⟨rn,rfl⟩:=Dm y9;exact⟨_,rfl,⟨rn,rfl,by omega⟩,y.o,qF _ _⟩
    |7,_ =>
     have d1:=P 1 (by kernel_rfl);have x1:=z.bY 1 15;simp only[ChV]at d1;have d6:=P 6 (by kernel_rfl);have x6:=z.bY 6 20;simp only[ChV]at d6;rw[d1]at x1;obtain⟨r,C,u⟩:=d6;rw[C]at x6;have _hri:(r:Int)<(gl.length:Int):=by omega
     refine⟨_,rfl,rfl,?_⟩;unfold Bl;go_simp;exact⟨⟨r,rfl,u⟩,y.o,qF _ _⟩
    |8,_ =>
     have d7:=P 7 (by kernel_rfl);have x7:=z.bY 7 21;simp only[ChV]at d7;obtain⟨r,C,u⟩:=d7;rw[C]at x7;obtain⟨g,hG⟩:∃g,gl[r]?=some g:=⟨_,Bf u⟩;obtain⟨b',o',cs,b3,f4,hrel,j⟩:=(HG.o.cW y.o).get hG;have c1:gb=b'∧go=o':=by injection b3 with E;injection E with E J;exact⟨E,J⟩
     obtain⟨rfl,rfl⟩:=c1;obtain⟨R,Y,kp,V,ne,m,f,S,k,H,U,kn,d,Z,Q,A,c,rfl,nd,kd,L⟩:=Rl hrel;have c6:=(hK.o g (Bz hG)).2;have z0:=j 0 _ rfl;have z1:=j 1 _ rfl;have z2:=j 2 _ rfl;have z3:=j 3 _ rfl;have z4:=j 4 _ rfl;have z5:=j 5 _ rfl;have z6:=j 6 _ rfl;have z7:=j 7 _ rfl;have z8:=j 8 _ rfl;simp only[show (Gd N0).size=9 from rfl,oh]at z0 z1 z2 z3 z4 z5 z6 z7 z8;have _hgl8:gb<W.heap.size:=by have:=y.o.size;omega
     have Aa:=Aq L;clear j hrel hG b3 L;refine⟨_,rfl,rfl,?_⟩;unfold Bl;go_simp;exact⟨⟨_,_,_,_,_,_,_,_,_,_,_,_,_,_,_,_,_,_,A,c,g.dq,rfl,nd,kd,Aa.o,c6⟩,y.o,qF _ _⟩
    |9,_ =>
     refine⟨_,rfl,rfl,?_⟩;unfold Bl;go_simp;exact⟨⟨_,rfl,qG _ _ _,y.o.size⟩,y.o.alloc _,(qF _ _).alloc _⟩
    |hd+10,hi=>exact absurd hi (by simp)
   ·intro val W B hV;have v8:=hV 8 (by simp);have v9:=hV 9 (by simp);simp only[ChV]at v8 v9;obtain⟨s,a,b,R,Y,kp,V,ne,m,f,S,k,H,U,kn,d,Z,Q,A,c,l,e2,E,J,h3,h4⟩:=v8;obtain⟨bx,e7,O,cg⟩:=v9;have nn:=((((((((O.aX 0 (.string s)).aX 1 (Aj a)).aX 2 (.bool b)).aX 3 (.slice R Y kp)).aX 4 (.slice V ne m)).aX 5 (.slice f S k)).aX 6 (.slice H U kn)).aX 7 (.slice d Z Q)).aX 8 (.slice A l.length c);have x8:Below wc.heap.size wc (((((((((W.setCell ⟨bx,0,none⟩ (.string s)).setCell ⟨bx,1,none⟩ (Aj a)).setCell ⟨bx,2,none⟩ (.bool b)).setCell ⟨bx,3,none⟩ (.slice R Y kp)).setCell ⟨bx,4,none⟩ (.slice V ne m)).setCell ⟨bx,5,none⟩ (.slice f S k)).setCell ⟨bx,6,none⟩ (.slice H U kn)).setCell ⟨bx,7,none⟩ (.slice d Z Q)).setCell ⟨bx,8,none⟩ (.slice A l.length c)) :=
     (((((((((iU.below B Aw).setCell (p:=⟨bx,0,none⟩) cg _).setCell (p:=⟨bx,1,none⟩) cg _).setCell (p:=⟨bx,2,none⟩) cg _).setCell (p:=⟨bx,3,none⟩) cg _).setCell (p:=⟨bx,4,none⟩) cg _).setCell (p:=⟨bx,5,none⟩) cg _).setCell (p:=⟨bx,6,none⟩) cg _).setCell (p:=⟨bx,7,none⟩) cg _).setCell (p:=⟨bx,8,none⟩) cg _
    have a2:af (Jp N0) 96 (((((((((W.setCell ⟨bx,0,none⟩ (.string s)).setCell ⟨bx,1,none⟩ (Aj a)).setCell ⟨bx,2,none⟩ (.bool b)).setCell ⟨bx,3,none⟩ (.slice R Y kp)).setCell ⟨bx,4,none⟩ (.slice V ne m)).setCell ⟨bx,5,none⟩ (.slice f S k)).setCell ⟨bx,6,none⟩ (.slice H U kn)).setCell ⟨bx,7,none⟩ (.slice d Z Q)).setCell ⟨bx,8,none⟩ (.slice A l.length c)) wc.heap.size A l:=by
     have c9:Below wc.heap.size W _:=(((((((((ny wc.heap.size W).setCell (p:=⟨bx,0,none⟩) cg (.string s)).setCell (p:=⟨bx,1,none⟩) cg (Aj a)).setCell (p:=⟨bx,2,none⟩) cg (.bool b)).setCell (p:=⟨bx,3,none⟩) cg (.slice R Y kp)).setCell (p:=⟨bx,4,none⟩) cg (.slice V ne m)).setCell (p:=⟨bx,5,none⟩) cg (.slice f S k)).setCell (p:=⟨bx,6,none⟩) cg (.slice H U kn)).setCell (p:=⟨bx,7,none⟩) cg (.slice d Z Q)).setCell (p:=⟨bx,8,none⟩) cg (.slice A l.length c);exact h3.below c9 Aw
    have h1:=nn.cell 8;have b4:=nn.lt;have b0:=O.cell;have b1:=O.frozen;have b2:=O.lt;have Aa:=Aq a2;have y3:=Aq x8;have a4:=Aq h1;have v1:=Aq b4;clear hV B O h3 nn x8 a2 h1 b4;unfold wpOp;change (if _ then _ else _);rw[if_pos (by kernel_rfl)];refine .inl ?_;simp only[Lp,Fw,Az,Ay,Ba,px];go_simp;obtain⟨w9,sn⟩:∃w9,w9=(((((((((W.setCell ⟨bx,0,none⟩ (.string s)).setCell ⟨bx,1,none⟩ (Aj a)).setCell ⟨bx,2,none⟩ (.bool b)).setCell ⟨bx,3,none⟩ (.slice R Y kp)).setCell ⟨bx,4,none⟩ (.slice V ne m)).setCell ⟨bx,5,none⟩ (.slice f S k)).setCell ⟨bx,6,none⟩ (.slice H U kn)).setCell ⟨bx,7,none⟩ (.slice d Z Q)).setCell ⟨bx,8,none⟩ (.slice A l.length c)):=⟨_,rfl⟩;rw[←sn]at Aa y3 a4 v1 ⊢;clear sn b0 b1 b2 e2 e7;go_wp2_with fail
    go_meet;exact⟨bx,A,c,l,rfl,cg,v1.o,by rw[a4.o];simp,E,J,Aa.o,h4,y3.o⟩
  case rest =>
   obtain⟨bx,A,c,l,rfl,cg,f2,y5,nd,kd,L,a1,i⟩:=hcut;have _hl54n:=a1.1;have D:=T.o.below i T.o.lt;have N:=hv.o.below i hv.o.lt;have ka:=(y2.o.below i Aw).aY i.size;have An:=(a9.o.below i Aw).aY i.size;have y4:=L.aY i.size;have x9:=na.o.trans (i.mono na.o.size);have v0:∀sz:Int,bK sz→bv N0 wc.heap.size wc fA A cA fc c cc fl l cl sz:=fun _ c0=>⟨⟨e8,c8,ka⟩,⟨nd,kd,y4⟩,⟨e1,c7,An⟩,c0,by omega⟩
   have f7:=D.cell 7;have f8:=D.cell 8;simp only[Az,Ay,Ba]at f7 f8;have _f9:=D.lt;have q:=N.cell;have _z:=N.frozen;have _q2:=N.lt;have hS:(fun w':World=>w'.cell? ⟨w2.heap.size,7,none⟩=some (.slice fA fl.length fc)∧w'.cell? ⟨bx,8,none⟩=some (.slice A l.length c)∧w'.cell? ⟨w2.heap.size,8,none⟩=some (.slice cA cl.length cc)) wc.drew:=⟨f7,y5,f8⟩;have b9:=Aq N;have b6:=Aq v0;have e6:=Aq x9;have c2:=Aq e5.o;have ke:N0≤w.heap.size:=hN;clear D N ka An y4 x9 v0 L T hv y2 a9 na np HG i hK y5 f7 f8;go_wp2_with fail
   refine Bv (Cl [7,10]) (Bm [1,3,5]) (Bm [7]) [0,1,2,3,4,5,6,7,8,9,10] (fun w':World=>w'.cell? ⟨w2.heap.size,7,none⟩=some (.slice fA fl.length fc)∧w'.cell? ⟨bx,8,none⟩=some (.slice A l.length c)∧w'.cell? ⟨w2.heap.size,8,none⟩=some (.slice cA cl.length cc)) (by kernel_rfl) (by kernel_rfl) (by kernel_rfl) (by kernel_rfl) ?_;refine Be ?_;refine Bj hS ?_;refine Be ?_;refine Bj hS ?_;refine Be ?_;refine Bj hS ?_;refine Be ?_;refine Bi fun K M=>?_;go_simp
   refine(Ix _ n _ HN.o (by omega) (by omega)).mono ?_;rintro e w5⟨r,y9,hr,rfl,rfl⟩;dsimp only;refine M _ _ (fun _=>hS) ?_;clear M K;refine Be ?_;refine Be ?_;have a0:fK N0 w (.returned (.agg #[.slice fA fl.length fc,.slice A l.length c,.slice cA cl.length cc,Aj (IntKind.i64.wrap (1+r))])) ((((wc.drew.setCell ⟨w.heap.size,0,none⟩ (.slice fA fl.length fc)).setCell ⟨w.heap.size,1,none⟩ (.slice A l.length c)).setCell ⟨w.heap.size,2,none⟩ (.slice cA cl.length cc)).setCell ⟨w.heap.size,3,none⟩ (Aj (IntKind.i64.wrap (1+r)))):=by
    have Ad:aH wc.drew w.heap.size 26 _:=b9.o;have e0:bv N0 wc.heap.size wc.drew fA A cA fc c cc fl l cl (IntKind.i64.wrap (1+r)):=(b6.o _ (Fs _)).below (ny wc.heap.size wc).drew Aw;refine⟨fA,A,cA,fc,c,cc,fl,l,cl,_,rfl,?_,by omega,c2.o,a1,?_⟩
    ·simp only[Br];exact(((e0.setCell Ad ke 0 _).setCell (Ad.aX 0 _) ke 1 _).setCell ((Ad.aX 0 _).aX 1 _) ke 2 _).setCell (((Ad.aX 0 _).aX 1 _).aX 2 _) ke 3 _
    ·exact(((e6.o.drew.setCell (p:=⟨w.heap.size,0,none⟩) Aw _).setCell (p:=⟨w.heap.size,1,none⟩) Aw _).setCell (p:=⟨w.heap.size,2,none⟩) Aw _).setCell (p:=⟨w.heap.size,3,none⟩) Aw _
   have HF:=Aq a0;clear a0;refine Bi fun K M=>?_;go_simp
   refine Bh M ?_;clear M K;refine Bb ?_;go_wp2;refine bodyPost_ret (v:=.agg #[.slice fA fl.length fc,.slice A l.length c,.slice cA cl.length cc,Aj (IntKind.i64.wrap (1+r))]) (by simp[results,Tryz.results12,go_sem,q]) rfl ?_;exact HF.o
theorem Xu (N0:Nat)(w:World)(z:Option Addr)(y u:Nat)(xs:List Int)(q:N0≤w.heap.size) (v:aE w w.heap.size 1 z y (xs.map (Value.int .i64))) (p:∀x∈xs,bK x) (k:y≤1000000000000) :
  Calls Tryz.prog 12 #[.slice z y u] w (Lv N0 w):=(Tn N0 w z y u xs q v p k).mono fun _ _ h=>h.weak
end
end Go.Proofs.YtnhebmgibiomnaaGreat

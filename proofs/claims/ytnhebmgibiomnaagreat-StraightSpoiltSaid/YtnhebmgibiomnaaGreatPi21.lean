import Derived.Test.YtnhebmgibiomnaaGreatPi18
import Derived.Test.YtnhebmgibiomnaaGreatPi20
set_option linter.unusedVariables false
set_option linter.unusedSimpArgs false
set_option maxRecDepth 100000
set_option maxHeartbeats 8000000
namespace Go.Proofs.YtnhebmgibiomnaaGreat
section
open Go.RowKit
theorem Uq {n:Nat}{fs:List Bd.aa} {l:List (Int×Int)} {c:Bd.aa} {P:List Bd.Place} (h:Hd.jL n fs l c P) {i:Nat} {x:Int×Int} (k:l[i]?=some x) (v:(Bd.bk P i).aR=true) : -32≤(Bd.bk P i).aC∧(Bd.bk P i).aC≤34:=by
 obtain⟨z,y,_,_⟩:=(h.ok i x k).kn v;have t:=Bd.ff x.1;have l':=Bd.fI x.1;have n1:=h.n1;have k1:=h.k1;unfold Bd.ay at z y;by_cases u:Bd.ao x.1=true
 ·rw[if_pos u]at z y;simp only at z y;omega
 ·rw[if_neg u]at z y;simp only at z y;omega
theorem Oz {fs:List Bd.aa} {l:List (Int×Int)} {c:Bd.aa} {P:List Bd.Place} (h:Hd.jL l.length fs l c P) {i:Nat} {x:Int×Int} (y:l[i]?=some x):i+1+Bu.jump x≤l.length:=by
 have hi:=(aS.1 y).1;have z:=(Hd.cE (h.ok i x y).al).2.1;unfold Bu.jump;split
 ·rename_i u;have:=z u;omega
 ·omega
theorem Qz {fs:List Bd.aa}(ps:List Bu.aq) {l:List (Int×Int)} {c:Bd.aa} {P:List Bd.Place} (h:Hd.jL l.length fs l c P):Wn fs.length (Bu.a_ l fs ps):=fun s q=>by
 obtain⟨k,v⟩:=List.mem_iff_getElem?.1 q;obtain⟨i,x,y,u,_,_,rfl⟩:=Bu.fB ps h k s v;have z:=Bu.dc ps h;have hi:=(aS.1 y).1;obtain⟨r,a⟩:=Uq h y (z.aR i (by omega) u);refine⟨fun p=>(Hd.cE (h.ok i x y).al).2.2 p,by simp only;omega,by simp only;omega,?_⟩;simp only;rw[←z.lT];exact Bu.fE fs ps l (Oz h y) Aw
theorem jw {fs:List Bd.aa}(y:fs.all Bd.dB=true)(a:Int) : -32≤(Bd.fn fs a).delta∧(Bd.fn fs a).delta≤32:=by
 unfold Bd.fn;rw[Bo];cases x:fs[a.toNat]? with
 |none=>exact⟨by decide,by decide⟩
 |some c =>
  have:=Bd.gm (List.all_eq_true.1 y c (Bz x));simp only[oK];omega
theorem pl_bd {ps:List Bu.aq}(y:∀p∈ps,0≤p.size∧p.size≤20001)(a:Int):0≤(Bu.pl ps a).size∧(Bu.pl ps a).size≤20001:=by
 unfold Bu.pl;rw[Bo];cases x:ps[a.toNat]? with
 |none=>exact⟨by decide,by decide⟩
 |some c=>exact y c (Bz x)
theorem Ng {z:List Bd.aa}(fs:List Bd.aa)(ps:List Bu.aq) {l:List (Int×Int)} {c:Bd.aa} {P:List Bd.Place} (h:Hd.jL l.length z l c P) (u:fs.all Bd.dB=true) (k:∀p∈ps,0≤p.size∧p.size≤20001):Bu.ez fs ps z.length l where
 az:=fun i x y=>Oz h y
 ahead:=fun x y v=>by
  obtain⟨i,hi⟩:=List.mem_iff_getElem?.1 y;exact((Hd.cE (h.ok i x hi).al).2.1 v).1
 ao:=fun x y q=>Bu.eS h x y q
 kj:=fun x _=>by
  have:=jw u x.2;unfold Bu.bc
  repeat' split
  all_goals omega
 fe:=fun x _=>by
  have:=pl_bd k x.2;unfold Bu.sizeOf
  repeat' split
  all_goals omega
theorem Kc {fs:List Bd.aa}{ps:List Bu.aq}{k:Nat} {l:List (Int×Int)} (h:Bu.ez fs ps k l):(Bu.a_ l fs ps).steps.length≤l.length:=by
 have:=(Bu.gM fs ps l k h l.length Aw).steps;rw[pB]at this;unfold Bu.a_
 simpa using this
theorem Zkw {ll:List (List (Int×Int))} {fs:List Bd.aa} {ps:List Bu.aq} {es:List Bu.cU} (h:Bu.All ll fs ps es) (g:fs.all Bd.dB=true) (e:∀p∈ps,0≤p.size∧p.size≤20001) (f:∀l∈ll,l.length≤100000):∀j,j<ll.length→Wp es ps j:=by
 intro j
 induction j using Nat.strongRecOn with
 |_ j ih =>
 intro u;obtain⟨Y,P,X,Q,v,K,a,r,_⟩:=h.fn j _ (Bf u);have U:=h.fl;have V:=h.pn;have k:(fs.take j).length=j:=by rw[Du];omega
 intro w B bb pv cv aA p A c aC m x s n q o z;rw[a]at x
 injection x with x
 subst x;rw[r]at z ⊢;have b:(fs.take j).all Bd.dB=true:=List.all_eq_true.2 fun c H=>List.all_eq_true.1 g c (qp H)
 have d:=Ng (fs.take j) ps v b e;have Z:=f _ (qA u);have R:=Kc d;have y:=Qz ps v;rw[k]at y;exact Sa es ps j (by omega) (fun i hi=>ih i hi (by omega)) _ y w B bb pv cv aA A c aC m s n q (by omega) o z
end
section
open Go.RowKit Mc
theorem Wv {P:Program}(w:World){ops:Array Oper}{o:Oper}{a:Act}{K:Act→World→Prop}{Q:Exit→Act→World→Prop}{E:Prop}(f:o.guard=none)(s x:Operand)(t:TypeId)
  (S:o.op=.call { callee:=.builtin .append,args:=#[s,x],argTypes:=#[t,t] }) {N0:Nat} {α:Type} (R:Repr N0 α)
  (aN:Nat) (e:TypeId) (i:TypeInfo) (z:Value) (bytes:Nat) (H:P.underlying t=some (.slice e)) (hi:P.info? e=some i) (U:i.zero=some z)
  (n:i.size=R.size) (A:i.bytes=bytes) (L:z.cells.size=R.size) (V:0<R.size) (b:e ∉ R.da) (J:N0≤aN)
  (v:Value) (l:List α) (G:a.eval s=v) (d:aK R e aN w v l)
  (g:Nat) (cs:List Value) (y:α) (I:a.eval x=.slice (some ⟨g,0,none⟩) 1 1) (r:aH w g e cs.toArray) (k:R.rel w w.heap.size y cs)
  (Z:l.length+1≤maxLen) (B:(l.length+1)*bytes≤140737488355328) (X:aN≤w.heap.size)
  (h:∀v' w',aK R e aN w' v' (l++[y])→w.grownBy w' v.ownBlock→K (a.put o.dst v') w') :
  if Region.wanted o (yielded ops a.tmps)=true then Oper.wp P o a w K Q else E:=by
 obtain⟨c,p,Y,m⟩:=d;have C:aE w w.heap.size R.size (some ⟨g,0,none⟩) 1 cs:=⟨by rw[R.len k];omega,fun _=>⟨_,_,rfl,r.lt,fun j u D=>by rw[nz,r.cell];simpa using D⟩⟩;exact Hl w f s x t S e i z R.size bytes H hi U n A L V aN v l.length c.flatten G p X w.heap.size _ 1 1 cs I C (R.du k) Z B
  fun v' w' F q _=>h v' w' (aK.push p Y m b J k F q) q
theorem Gu:∀(l:List (Int×Int)),Cu l=bu l
 | []=>rfl
 |x::r=>by rw[Cu,Gu r];rfl
theorem Zhm {w:World}{aN:Nat}{v:Value}{l:List Bu.PS} (h:w.ownsRow aN 145 4 v l.length (Dr l)) (hi:∀s∈l,bK s.op∧bK s.a∧bK s.aC∧bK (s.go:Int)):aK (kQ 0) 145 aN w v l :=
 aK.b_ (fun s=>[Aj s.op,Aj s.a,Aj s.aC,Aj (s.go:Int)]) (fun s k=>by
  obtain⟨z,x,u,y⟩:=hi s k;exact⟨[Aj s.op],[Aj s.a,Aj s.aC,Aj (s.go:Int)],rfl,⟨rfl,z⟩,[Aj s.a],[Aj s.aC,Aj (s.go:Int)],rfl,⟨rfl,x⟩,[Aj s.aC],[Aj (s.go:Int)],rfl,⟨rfl,u⟩,⟨rfl,y⟩⟩) h
theorem Vg {fs:List Bd.aa}(ps:List Bu.aq) {l:List (Int×Int)} {c:Bd.aa} {P:List Bd.Place} (h:Hd.jL l.length fs l c P) (j:l.length≤100000) (hi:∀x∈l,bK x.2):∀s∈(Bu.a_ l fs ps).steps,bK s.op∧bK s.a∧bK s.aC∧bK (s.go:Int):=fun s q=>by
 obtain⟨k,v⟩:=List.mem_iff_getElem?.1 q;obtain⟨i,x,y,z,_,_,rfl⟩:=Bu.fB ps h k s v;have p:=Bu.dc ps h;have g:=(aS.1 y).1;obtain⟨r,e⟩:=Uq h y (p.aR i (by omega) z);have d:=(Hd.cE (h.ok i x y).al).1;have u:=hi x (Bz y);have f:=Bu.fE fs ps l (Oz h y) Aw;have b:Bu.eI fs ps l l.length≤l.length:=by
  have key:∀i,i≤l.length→Bu.eI fs ps l i≤i:=by
   intro i
   induction i with
   |zero=>intro _;exact pG 0
   |succ i ih =>
    intro hi;obtain⟨x,y⟩:∃x,l[i]?=some x:=⟨_,Bf (by omega)⟩;have:=ih (by omega);unfold Bu.eI at this ⊢;rw[Bu.dJ fs ps y];unfold Bu.bz;split
    ·omega
    ·dsimp only;split
     ·rw[Ca,om];omega
     ·omega
  exact key _ Aw
 unfold bK at u ⊢;simp only;omega
structure jd (ll:List (List (Int×Int))) (l:List (Int×Int)) (fs:List Bd.aa) (ps:List Bu.aq) (es:List Bu.cU):Prop where
 all:Bu.All ll fs ps es
 may:fs.all Bd.dB=true
 tab:∃c P,Hd.jL l.length fs l c P
 fe:∀p∈ps,0≤p.size∧p.size≤20001
theorem Zkf {ll:List (List (Int×Int))} {l:List (Int×Int)} {c:Bd.aa} (h:Bd.program ll l=(c,0)):(Bd.funcs ll).2.2=0∧jd ll l (Bd.funcs ll).1 (Bu.dZ (Bd.funcs ll).1 ll []) (Bu.ej (Bu.dZ (Bd.funcs ll).1 ll []) []):=by
 unfold Bd.program at h;split at h
 ·rename_i z;simp at h;exact absurd h.2 z
 ·rename_i e;have q:(Bd.funcs ll).2.2=0:=by omega
  refine⟨q,?_⟩;have x:=Bu.jQ q;generalize (Bd.funcs ll).1=fs at *;generalize Bu.dZ fs ll []=ps at *;generalize Bu.ej ps []=es at *;unfold Bd.fp at h;split at h
  ·rename_i z;simp at h;exact absurd h.2 z
  ·rename_i u;have b:=Bu.fJ (l:=l) (cs:=fs) (by omega);obtain⟨P,d⟩:=Hd.eU b;refine⟨x,?_,⟨_,P,d⟩,fun p s=>?_⟩
   ·unfold Bd.aA at u;split at u
    ·assumption
    ·simp at u
   ·obtain⟨j,k⟩:=List.mem_iff_getElem?.1 s;have v:=(aS.1 k).1;obtain⟨_,_,_,_,_,_,y,_⟩:=x.fn j _ (Bf (by rw[←x.pn];exact v));rw[k]at y
    injection y with y
    obtain⟨r,a,_⟩:=Bu.dP (fs.take j) ps (ll[j]'(by rw[←x.pn];exact v));rw[y];exact⟨r,a⟩
theorem jd.plan {ll:List (List (Int×Int))} {l:List (Int×Int)} {fs:List Bd.aa} {ps:List Bu.aq} {es:List Bu.cU} (h:jd ll l fs ps es) (b:∀l∈ll,l.length≤100000) (hi:∀l∈ll,∀x∈l,bK x.2) {j:Nat} {y:List (Int×Int)} (v:ll[j]?=some y) :
  Bu.ez fs (ps.take j) (ps.take j).length y∧ps[j]?=some (Bu.a_ y fs (ps.take j))∧(∀s∈(Bu.a_ y fs (ps.take j)).steps,bK s.op∧bK s.a∧bK s.aC∧bK (s.go:Int)):=by
 have g:=(aS.1 v).1;obtain⟨i,P,f,o,r,c,u,d,z⟩:=h.all.fn j y v;have m:=h.all.fl;have n:=h.all.pn;have e:Bu.a_ y (fs.take j) ps=Bu.a_ y fs (ps.take j):=by
  rw[u]at z;exact oU z
 have k:=Ng fs (ps.take j) r h.may fun p u=>h.fe p (qp u)
 rw[show (fs.take j).length=(ps.take j).length by rw[Du,Du];omega]at k;have q:=Bz v;refine⟨k,z,?_⟩;rw[←e];exact Vg ps r (b _ q) (hi _ q)
theorem Zaz {w:World}{B:Nat}{t:TypeId}{size n:Nat}{v:Value}{xs:List Value}(h:w.ownsRow 0 t size v n xs)(z:∀g,v.ownBlock=some g→B≤g):w.ownsRow B t size v n xs:=by
 refine⟨h.1,?_⟩;rcases h.2 with h|⟨g,cY,aF,x,_,y⟩
 ·exact .inl h
 ·exact .inr ⟨g,cY,aF,x,z g (by rw[x];rfl),y⟩
def Zed (w:World)(r:List Sr.bE×Int)(e:Ending)(w':World):Prop:=∃v,e=.returned (.tuple #[v,Aj r.2])∧Below w.heap.size w w'∧w'.ownsRow w.heap.size 50 5 v r.1.length (Ch r.1)
def BdI (x:World)(ps:List Bu.aq)(i:Value)(wr:World):Prop :=
 ∃(k:Nat) (v:Value),k≤ps.length∧i=Aj (k:Int)∧aH wr x.heap.size 86 #[v,.slice none 0 0]∧aK (Ll 0) 89 x.heap.size wr v (ps.take k)∧Below x.heap.size x wr
theorem Zcf:(Tryz.prog.info? 89).map (fun i=>(i.zero,i.size,i.bytes))=some (some (.agg #[.slice none 0 0,Aj 0]),2,32):=by kernel_rfl
theorem aK.dZ {w:World}{aN:Nat}{A:Option Addr}{c:Nat}{q:List Bu.aq} (h:aK (Ll 0) 89 aN w (.slice A q.length c) q):fy w (.slice A q.length c) q:=by
 obtain⟨z,y,e,_,_,x⟩:=h.form;exact⟨z,y,e,x⟩
theorem Zba {w:World}{B:Nat}{t:TypeId}{size:Nat}:w.ownsRow B t size (.slice none 0 0) 0 []:=⟨by simp,.inl ⟨rfl,rfl⟩⟩
theorem Ni (A V:Option Addr)(c D:Nat)(aP:Value)(size:Int) (ll:List (List (Int×Int))) (l:List (Int×Int)) (w:World) (e7:∃a n k,aP=.slice a n k) (hR:cN w w.heap.size A ll) (U:aE w w.heap.size 2 V l.length (Cu l)) (hq:∀l∈ll,l.length≤100000) (hn:l.length≤100000) (hi:∀l∈ll,∀x∈l,bK x.2) (cm:∀x∈l,bK x.2) :
  Calls Tryz.prog 14 #[.agg #[.slice A ll.length c,.slice V l.length D,aP,Aj size]] w (Zed w (Bu.build ll l)):=by
 obtain⟨ca,cn,ck,rfl⟩:=e7;have v2:=Aq (fun W h1 h2 h3=>Mn A V c D w.heap.size (.slice ca cn ck) size ll l W ⟨_,_,_,rfl⟩ h1 h2 h3 (fun l U=>Ex (hq l U) (by decide)) (Ex hn (by decide)));have d5:=fun (c:Bd.aa) (h:Bd.program ll l=(c,0))=>Zkf h
 have s:Bu.build ll l=if (Bd.program ll l).2≠0 then([],(Bd.program ll l).2) else if 20000<(Bu.a_ l (Bd.funcs ll).1 (Bu.dZ (Bd.funcs ll).1 ll [])).size+1 then([],3) else(Bu.cG (Bu.ej (Bu.dZ (Bd.funcs ll).1 ll []) []) (Bu.a_ l (Bd.funcs ll).1 (Bu.dZ (Bd.funcs ll).1 ll [])) 0 0++[⟨42,0,0,0,(Bd.program ll l).1.delta⟩],0):=rfl
 generalize Bd.program ll l=pr at *;obtain⟨⟨c0,C,I,J⟩,e⟩:=pr;simp only at s;have HR:=Aq hR;have HL:=Aq U;have v1:=Aq (fun W h1 h2=>Rm A c w.heap.size ll W h1 h2 (fun l U=>Ex (hq l U) (by decide)));have G:Below w.heap.size w (w.alloc (.cells #[.slice A ll.length c,.slice V l.length D,.slice ca cn ck,Aj size] 26)):=aI.alloc Aw _;have x9:=Aq (qG w 26 #[.slice A ll.length c,.slice V l.length D,.slice ca cn ck,Aj size]);have w3:=Aq G;have z2:=Aq hq;have HN:=Aq hn;have HI:=Aq hi;have e9:=Aq cm;have y6:=Aq d5;have x6:=Aq s;clear hR U G hq hi cm hn d5 s;go_enter Tryz.func14,Tryz.ntmps14;go_wp2_with fail
 refine(v2.o _ (HR.o.below w3.o Aw) (HL.o.below w3.o Aw) w3.o.size).mono ?_;rintro e1 w1⟨rfl,x7⟩;simp only[Ug];have g0:=x7.size;simp only[World.size_alloc]at g0;go_upto_region 2 with fail
 have x1:Below w.heap.size w (w1.alloc (.cells #[Aj c0,Aj C,Aj I,Aj J] 78)):=(w3.o.trans (x7.mono w3.o.size)).alloc (by omega) _;have c1:aH (w1.alloc (.cells #[Aj c0,Aj C,Aj I,Aj J] 78)) w.heap.size 26 #[.slice A ll.length c,.slice V l.length D,.slice ca cn ck,Aj size]:=aH.alloc ((x7.block _ x9.o.lt).trans x9.o) _;have d2:=qG w1 78 #[Aj c0,Aj C,Aj I,Aj J];have c5:=Aq x1;have b6:=Aq c1;have y2:=Aq d2;have a0:=c1.lt;have p0:=c1.cell 0;simp only[Az,Ay,Ba]at p0;clear x7 x1 c1 d2 v2 x9 w3;generalize w1.alloc (.cells #[Aj c0,Aj C,Aj I,Aj J] 78)=X1 at *;generalize w1.heap.size=cb at *;by_cases he:e=0
 ·subst he;obtain⟨hz,M⟩:=y6.o _ rfl;have s:=x6.o;rw[if_neg (by simp)]at s;generalize Bd.funcs ll=r at *;obtain⟨fs,f1,f2⟩:=r;simp only at hz M s;subst hz;generalize g2:Bu.dZ fs ll []=ps at *;generalize d6:Bu.ej ps []=es at *;have Z:=Aq s;have m:=Aq M;have f:=Aq M.all.pn;have a8:=Aq M.all.fl;have Q:=Aq M.all.l20;clear g2 d6 s M y6 x6;go_wp2_with fail
  refine(v1.o _ (HR.o.below c5.o Aw) c5.o.size).mono ?_;rintro e2 j⟨A1,d3,rfl,c9,hl⟩;have i2:=hl.size;have y4:Hid (aH j w.heap.size 26 #[.slice A ll.length c,.slice V l.length D,.slice ca cn ck,Aj size]):=Aq ((hl.block _ a0).trans b6.o);have y5:Hid (aH j cb 78 #[Aj c0,Aj C,Aj I,Aj J]):=Aq ((hl.block _ y2.o.lt).trans y2.o);have L:Hid (Below w.heap.size w j):=Aq (c5.o.trans (hl.mono c5.o.size));have e6:=Aq c9;clear p0 a0 c9 hl c5 b6 y2 v1;have p0:=y4.o.cell 0;simp only[Az,Ay,Ba]at p0;have f0:=y4.o.lt;obtain⟨i0,f6,e4,cm,g4⟩:=Fe Zcf;go_wp2_with fail
  go_loopw [34] (fun i W=>BdI j ps i W) (fun i _=>ps.length-(intOf i).toNat)
  case atStart=>exact⟨0,_,By _,rfl,qG _ _ _,qJ _ _ _ _,aI.alloc Aw _⟩
  case round =>
   clear p0;obtain⟨k,v,hk,rfl,hB,hO,hb⟩:=hrel;have c2:=hb.size;obtain⟨q,F⟩:∃q,q=ps.take k:=⟨_,rfl⟩;rw[←F]at hO;have z6:q.length=k:=by rw[F,Du];omega
   obtain⟨Y,X,hv,i6,g8,c8⟩:=hO.form;subst hv;have z0:=Aq (e6.o.below hb Aw);have HOr:=Aq hO;have y3:=Aq hB;have R:=Aq hb;have z3:=Aq c8;have G:=hB.cell 0;simp only[Az,Ay,Ba]at G;have z1:=hB.lt;clear hB hO hb c8;by_cases y0:k<ps.length
   ·obtain⟨x,hx⟩:∃x,ll[k]?=some x:=⟨_,Bf (by have:=f.o;omega)⟩;obtain⟨E,z8,O⟩:=m.o.plan z2.o HI.o hx;rw[←F]at E z8 O;have cg:=Bu.dP fs q x;have cp:=Mo x fs q wr.drew wr.heap.size;generalize f8:Bu.a_ x fs q=pl at *;have i5:=z2.o x (Bz hx);obtain⟨vs,a4,d4⟩:=HR.o.below (L.o.trans (R.o.mono L.o.size)) Aw;obtain⟨u,hu,Al,cl,rfl,a2⟩:=d4 k x hx;obtain⟨b,off,rfl,i3,a9⟩:=a4.2 (by have:=f.o;omega);have d0:=a9 _ _ hu;have e5:(k:Int)<ll.length:=by have:=f.o;omega
    have v0:=f.o;have y8:=a8.o;have y7:=Q.o;have x2:=Aq (cp Al A1 Y cl d3 X Aw (by rw[←Gu];exact a2.aY (by omega)) (by exact z0.o.aY R.o.size) (by exact z3.o) E (by omega) (by omega) (by omega) m.o.may (fun p hp=>m.o.fe p (by rw[F]at hp;exact qp hp)));have z9:=Aq O;have d7:=Aq z8;have HQ:=Aq F;have z5:=Aq cg;have v6:=Aq z6;have N:=Aq y0;clear z6 hk y0 v0 y8 y7 cp a2 a4 d4 hu a9 hx E z8 O f8 F cg;go_wp2_with fail
    have hS:wr.drew.cell? ⟨j.heap.size,0,none⟩=some (.slice Y q.length X):=G;refine Cv [6,7,8,10] [1,5] [6,7] 11 (fun wq:World=>wq.cell? ⟨j.heap.size,0,none⟩=some (.slice Y q.length X)) ?_
    iterate 6 (first|refine Be ?_|refine Bj hS ?_)
    refine Bi fun K H=>?_;go_simp
    refine x2.o.mono ?_;rintro e y⟨v5,rfl,A5,hK⟩;have w5:Below wr.heap.size wr.drew y:=A5;obtain⟨z,d,y9,v9,d1,Ap⟩:=(Zhm hK z9.o).form;subst y9;have x4:=Aq Ap;have v3:wr.heap.size≤y.heap.size:=w5.size;have a5:Hid (aK (Ll 0) 89 j.heap.size y (.slice Y q.length X) q):=Aq (aK.below (w:=wr.drew) HOr.o w5 Aw);have f9:Hid (aH y j.heap.size 86 #[.slice Y q.length X,.slice none 0 0]):=Aq ((w5.block _ z1).trans y3.o);have c3:Hid (Below j.heap.size j y):=Aq (R.o.drew.trans (w5.mono c2));have a1:y.cell? ⟨j.heap.size,0,none⟩=some (.slice Y q.length X):=(w5.cell (p:=⟨j.heap.size,0,none⟩) z1).trans G;clear A5 w5 hK Ap;refine H _ _ (fun _=>a1) ?_;clear H K;refine Bi fun K H=>?_;go_simp
    have g1:(y.alloc (.cells #[.slice z pl.steps.length d,Aj pl.size] 89)).cell? ⟨j.heap.size,0,none⟩=some (.slice Y q.length X):=(Cc _ _ _ (by show j.heap.size<_;omega)).trans a1;refine H _ _ (fun _=>g1) ?_;clear H K;refine Bi fun K H=>?_
    refine Wv _ rfl (.tmp 39) (.tmp 45) _ rfl (Ll 0) j.heap.size 89 i0 _ 32 Tryz.underlying84 f6 e4 cm g4 rfl (by decide) (by decide) (By _) (.slice Y q.length X) q rfl (a5.o.below (aI.alloc Aw _) Aw) y.heap.size [.slice z pl.steps.length d,Aj pl.size] pl rfl (qG _ _ _) ⟨[.slice z pl.steps.length d],[Aj pl.size],rfl,⟨z,d,rfl,v9,d1,(x4.o.below (aI.alloc Aw _) Aw).aY (by simp)⟩,rfl,by have:=z5.o;unfold bK;simp only;omega⟩ (by have:=f.o;have:=Q.o;have:=v6.o;have:=N.o;unfold maxLen;omega) (by have:=f.o;have:=Q.o;have:=v6.o;have:=N.o;omega) (by simp only[World.size_alloc];omega) ?_;intro v' w6 z7 hg;have bU:=aK.below a5.o ((ny y.heap.size y).alloc Aw (.cells #[.slice z pl.steps.length d,Aj pl.size] 89)) Aw;obtain⟨A6,c6,a3,_⟩:=z7.form;obtain⟨n6,b9⟩:∃n,n=(q++[pl]).length:=⟨_,rfl⟩;rw[←b9]at a3;subst a3;have S:=Aq ((f9.o.alloc (.cells #[.slice z pl.steps.length d,Aj pl.size] 89)).bj bU hg (by decide));have d9:Hid (Below j.heap.size j w6):=Aq (Km bU (c3.o.alloc (by omega) _) hg (by simp only[World.size_alloc];omega) Aw);have f5:=Aq z7;have x0:=S.o.cell 0;have xf:=S.o.frozen 0;have xl:=S.o.lt;simp only[Az,Ay]at x0;clear z7 hg bU b9;refine Bh H ?_;clear H K
    iterate 1 (first|refine Be ?_|refine Bj hS ?_)
    refine Bi fun K H=>?_;go_simp
    refine Bh H ?_;clear H K;refine Bb ?_;clear hS;have i1:IntKind.i64.wrap ((k:Int)+1)=(k:Int)+1:=Do _ (by have:=N.o;have:=f.o;have:=Q.o;omega);go_wp2_with fail
    go_roundw
    case rel =>
     have g9:k<20:=by have:=N.o;have:=f.o;have:=Q.o;omega
     refine⟨k+1,.slice A6 n6 c6,by have:=N.o;omega,by simp,S.o.aX 0 (.slice A6 n6 c6),?_,d9.o.setCell (p:=⟨j.heap.size,0,none⟩) Aw _⟩;have e:ps.take (k+1)=q++[pl]:=by rw[oC,d7.o,HQ.o];rfl
     rw[e];exact f5.o.setCell S.o (by decide) (By _) 0 (.slice A6 n6 c6)
    case measure=>have:=N.o;have:=f.o;have:=Q.o;simp[intOf];omega
   ·obtain rfl:k=ps.length:=by omega
    have e3:q=ps:=by rw[F,pB]
    subst e3;clear F;obtain⟨cM,P,hP⟩:=m.o.tab;have v0:=f.o;have y8:=a8.o;have y7:=Q.o;have E:=Ng fs q hP m.o.may m.o.fe;rw[show fs.length=q.length by omega]at E;have O:=Vg q hP HN.o e9.o;have a7:=Kc E;have y1:=Qz q hP;rw[show fs.length=q.length by omega]at y1;have v4:=Zkw m.o.all m.o.may m.o.fe z2.o;have v8:=fun hs=>Sm.ey (ps:=q) (es:=es) hP (fun i hi=>(Sm.gi m.o.all i (by omega)).2.2) hs (fun i hi=>(Sm.gi m.o.all i (by omega)).1) 0 0
    have cg:=Bu.dP fs q l;have cp:=Mo l fs q wr wr.heap.size V A1 Y D d3 X Aw (by rw[←Gu];exact(HL.o.below (L.o.trans (R.o.mono L.o.size)) Aw).aY (by omega)) (z0.o.aY R.o.size) z3.o E (by omega) HN.o (by omega) m.o.may m.o.fe;have Z:=Aq Z.o;generalize Bu.a_ l fs q=pl at *;have x2:=Aq cp;have z9:=Aq O;have b7:=Aq y1;have b1:=Aq v4;have b3:=Aq v8;have p1:wr.cell? ⟨w.heap.size,1,none⟩=some (.slice V l.length D):=(R.o.cell (p:=⟨w.heap.size,1,none⟩) f0).trans (y4.o.cell 1);have b0:=Aq cg;have g6:=Aq a7;have e5:¬ ((q.length:Int)<ll.length):=by have:=f.o;omega
    clear v0 y8 y7 cp O y1 v4 v8 E hP cM P z0 z3 cg a7 z6 hk y0;go_wp2_with fail
    refine x2.o.mono ?_;rintro e y⟨v5,rfl,A5,hK⟩;obtain⟨z,d,y9,v9,d1,Ap⟩:=(Zhm hK z9.o).form;subst y9;have v3:=A5.size;have b5:Below wr.heap.size wr (y.alloc (.cells #[.slice z pl.steps.length d,Aj pl.size] 89)):=A5.alloc (by omega) _;have z5:Hid (fN (y.alloc (.cells #[.slice z pl.steps.length d,Aj pl.size] 89)) j.heap.size j.heap.size (.slice Y q.length X) (.slice none 0 0) q []):=Aq ⟨(b5.block _ z1).trans y3.o,(HOr.o.below b5 Aw).dZ,Zba,Aw,fun g h=>by cases h⟩;have c3:=Aq (L.o.trans ((R.o.trans (b5.mono c2)).mono L.o.size));have c4:Hid (aH (y.alloc (.cells #[.slice z pl.steps.length d,Aj pl.size] 89)) cb 78 #[Aj c0,Aj C,Aj I,Aj J]):=Aq (((R.o.trans (b5.mono c2)).block _ y5.o.lt).trans y5.o);have x4:Hid (af (kQ 0) 145 (y.alloc (.cells #[.slice z pl.steps.length d,Aj pl.size] 89)) (y.alloc (.cells #[.slice z pl.steps.length d,Aj pl.size] 89)).heap.size z pl.steps):=Aq ((Ap.below (aI.alloc Aw (.cells #[.slice z pl.steps.length d,Aj pl.size] 89)) Aw).aY (by simp));have d8:=Aq (qG y 89 #[.slice z pl.steps.length d,Aj pl.size]);have i4:IntKind.i64.wrap (pl.size+1)=pl.size+1:=Do _ (by have:=b0.o;omega);have g5:=y5.o.lt;have v7:=L.o.size;clear A5 hK Ap b5 p1 G y3 HOr x2;by_cases x8:(20000:Int)<pl.size+1
    ·have s:=Z.o;rw[if_pos x8]at s;have Am:=Aq s;clear s Z;go_wp2_with fail
     refine bodyPost_ret (v:=.tuple #[.slice none 0 0,Aj 3]) (by simp[results,Tryz.results14,go_sem]) rfl ⟨.slice none 0 0,?_,c3.o,?_⟩
     ·rw[Am.o]
     ·rw[Am.o];exact Zba
    ·have s:=Z.o;rw[if_neg x8]at s;have Am:=Aq s;have U:=b3.o (by have:=b0.o;omega);have z4:=Aq (Sa es q q.length Aw (fun f3 hj=>b1.o f3 (by have:=f.o;omega)) pl b7.o _ j.heap.size j.heap.size _ _ [] z d 0 0 z5.o (by simp only[World.size_alloc];omega) x4.o (by have:=g6.o;have:=HN.o;omega) (by have:=f.o;have:=Q.o;exact⟨by omega,by omega,by omega,by omega⟩) (by rw[Bx];have:=b0.o;omega));have f4:=Aq U;rw[le]at z4;generalize Bu.cG es pl 0 0=T at *;clear s Z U b3 b1 b7;go_wp2_with fail
     refine z4.o.mono ?_;rintro e w6⟨rfl,⟨e0,b8⟩,x3⟩;have g3:=x3.below.size;have a6:aH w6 cb 78 #[Aj c0,Aj C,Aj I,Aj J]:=(x3.below.block _ g5).trans c4.o;have k1:=a6.cell 1;simp only[Az,Ay,Ba]at k1;have S:=Aq b8;have c7:=Aq x3;have HZ:=Aq c2;have e8:=Aq v3;have f7:=Aq (show T.length<1000000 by have:=f4.o;have:=b0.o;omega);clear b8 x3 c4 a6 z4 x4 d8 x8;go_wp2_with fail
     refine(Ey w6 j.heap.size j.heap.size _ e0 q T S.o (by have:=e8.o;have:=HZ.o;simp only[World.size_alloc]at g3;omega) f7.o ⟨42,0,0,0,C⟩).mono ?_;rintro e w7⟨rfl,⟨b2,x5⟩,b4⟩;have k2:=x5.aG.cell 1;simp only[Az,Ay,Ba]at k2;have x1:=c3.o.trans ((c7.o.below.trans b4.below).mono v7);have ho:=Zaz x5.aA (B:=w.heap.size) fun g h=>Ex v7 (x5.f_ g h)
     clear k1 S c7 x5 b4;go_wp2_with fail
     refine bodyPost_ret (v:=.tuple #[b2,Aj 0]) (by simp[results,Tryz.results14,go_sem]) rfl ⟨b2,?_,x1,?_⟩
     ·rw[Am.o]
     ·rw[Am.o];exact ho
 ·have Z:=Aq x6.o;have g7:(e != 0)=true:=by simpa using he
  clear x6 y6 v1;go_wp2_with fail
  refine bodyPost_ret (v:=.tuple #[.slice none 0 0,Aj e]) (by simp[results,Tryz.results14,go_sem]) rfl ⟨.slice none 0 0,?_,c5.o,?_⟩
  ·rw[Z.o,if_pos he]
  ·rw[Z.o,if_pos he];exact Zba
end
end Go.Proofs.YtnhebmgibiomnaaGreat

import Derived.Test.YtnhebmgibiomnaaGreatPh18
import Derived.Test.YtnhebmgibiomnaaGreatPh20
set_option linter.unusedVariables false
set_option linter.unusedSimpArgs false
set_option maxRecDepth 100000
set_option maxHeartbeats 8000000
namespace Go.Proofs.YtnhebmgibiomnaaGreat
section
open Go.RowKit
theorem Uf {n:Nat}{fs:List Bd.aa} {l:List (Int×Int)} {c:Bd.aa} {P:List Bd.Place} (h:Hd.jI n fs l c P) {i:Nat} {x:Int×Int} (v:l[i]?=some x) (k:(Bd.bj P i).aR=true) : -32≤(Bd.bj P i).aC∧(Bd.bj P i).aC≤34:=by
 obtain⟨z,y,_,_⟩:=(h.ok i x v).kn k;have t:=Bd.fe x.1;have l':=Bd.fJ x.1;have n1:=h.n1;have k1:=h.k1;unfold Bd.ay at z y;by_cases u:Bd.ao x.1=true
 ·rw[if_pos u]at z y;simp only at z y;omega
 ·rw[if_neg u]at z y;simp only at z y;omega
theorem Ol {fs:List Bd.aa} {l:List (Int×Int)} {c:Bd.aa} {P:List Bd.Place} (h:Hd.jI l.length fs l c P) {i:Nat} {x:Int×Int} (y:l[i]?=some x):i+1+Bu.jump x≤l.length:=by
 have hi:=(aS.1 y).1;have u:=(Hd.cB (h.ok i x y).al).2.1;unfold Bu.jump;split
 ·rename_i z;have:=u z;omega
 ·omega
theorem Qn {fs:List Bd.aa}(ps:List Bu.aq) {l:List (Int×Int)} {c:Bd.aa} {P:List Bd.Place} (h:Hd.jI l.length fs l c P):Wd fs.length (Bu.aY l fs ps):=fun s u=>by
 obtain⟨k,p⟩:=List.mem_iff_getElem?.1 u;obtain⟨i,x,y,v,_,_,rfl⟩:=Bu.fE ps h k s p;have z:=Bu.dc ps h;have hi:=(aS.1 y).1;obtain⟨a,r⟩:=Uf h y (z.aR i (by omega) v);refine⟨fun q=>(Hd.cB (h.ok i x y).al).2.2 q,by simp only;omega,by simp only;omega,?_⟩;simp only;rw[←z.lK];exact Bu.fI fs ps l (Ol h y) Aw
theorem je {fs:List Bd.aa}(y:fs.all Bd.cw=true)(a:Int) : -32≤(Bd.fn fs a).delta∧(Bd.fn fs a).delta≤32:=by
 unfold Bd.fn;rw[Bn];cases x:fs[a.toNat]? with
 |none=>exact⟨by decide,by decide⟩
 |some c =>
  have:=Bd.gp (List.all_eq_true.1 y c (Bx x));simp only[ow];omega
theorem pl_bd {ps:List Bu.aq}(x:∀p∈ps,0≤p.size∧p.size≤20001)(a:Int):0≤(Bu.pl ps a).size∧(Bu.pl ps a).size≤20001:=by
 unfold Bu.pl;rw[Bn];cases y:ps[a.toNat]? with
 |none=>exact⟨by decide,by decide⟩
 |some c=>exact x c (Bx y)
theorem Mt {z:List Bd.aa}(fs:List Bd.aa)(ps:List Bu.aq) {l:List (Int×Int)} {c:Bd.aa} {P:List Bd.Place} (h:Hd.jI l.length z l c P) (q:fs.all Bd.cw=true) (u:∀p∈ps,0≤p.size∧p.size≤20001):Bu.fB fs ps z.length l where
 az:=fun i x y=>Ol h y
 ahead:=fun x y k=>by
  obtain⟨i,hi⟩:=List.mem_iff_getElem?.1 y;exact((Hd.cB (h.ok i x hi).al).2.1 k).1
 ao:=fun x y v=>Bu.eU h x y v
 kh:=fun x _=>by
  have:=je q x.2;unfold Bu.bZ
  repeat' split
  all_goals omega
 ff:=fun x _=>by
  have:=pl_bd u x.2;unfold Bu.sizeOf
  repeat' split
  all_goals omega
theorem Js {fs:List Bd.aa}{ps:List Bu.aq}{k:Nat} {l:List (Int×Int)} (h:Bu.fB fs ps k l):(Bu.aY l fs ps).steps.length≤l.length:=by
 have:=(Bu.gK fs ps l k h l.length Aw).steps;rw[o_]at this;unfold Bu.aY
 simpa using this
theorem Zkl {ll:List (List (Int×Int))} {fs:List Bd.aa} {ps:List Bu.aq} {es:List Bu.cV} (h:Bu.All ll fs ps es) (s:fs.all Bd.cw=true) (k:∀p∈ps,0≤p.size∧p.size≤20001) (f:∀l∈ll,l.length≤100000):∀j,j<ll.length→Wf es ps j:=by
 intro j
 induction j using Nat.strongRecOn with
 |_ j ih =>
 intro z;obtain⟨K,P,U,Q,u,Y,g,r,_⟩:=h.fn j _ (Bg z);have Z:=h.fl;have X:=h.pn;have H:(fs.take j).length=j:=by rw[Dn];omega
 intro w B bb pv cv aA p A c aC q x d a e o y;rw[g]at x
 injection x with x
 subst x;rw[r]at y ⊢;have n:(fs.take j).all Bd.cw=true:=List.all_eq_true.2 fun c b=>List.all_eq_true.1 s c (p_ b)
 have m:=Mt (fs.take j) ps u n k;have V:=f _ (qn z);have R:=Js m;have v:=Qn ps u;rw[H]at v;exact Rp es ps j (by omega) (fun i hi=>ih i hi (by omega)) _ v w B bb pv cv aA A c aC q d a e (by omega) o y
end
section
open Go.RowKit Mc
theorem Wl {P:Program}(w:World){ops:Array Oper}{o:Oper}{a:Act}{K:Act→World→Prop}{Q:Exit→Act→World→Prop}{E:Prop}(b:o.guard=none)(s x:Operand)(t:TypeId)
  (c:o.op=.call { callee:=.builtin .append,args:=#[s,x],argTypes:=#[t,t] }) {N0:Nat} {α:Type} (R:Repr N0 α)
  (aN:Nat) (e:TypeId) (i:TypeInfo) (z:Value) (bytes:Nat) (J:P.underlying t=some (.slice e)) (hi:P.info? e=some i) (B:i.zero=some z)
  (V:i.size=R.size) (A:i.bytes=bytes) (S:z.cells.size=R.size) (G:0<R.size) (C:e ∉ R.df) (Z:N0≤aN)
  (v:Value) (l:List α) (f:a.eval s=v) (L:aM R e aN w v l)
  (g:Nat) (cs:List Value) (y:α) (X:a.eval x=.slice (some ⟨g,0,none⟩) 1 1) (r:aH w g e cs.toArray) (k:R.rel w w.heap.size y cs)
  (H:l.length+1≤maxLen) (I:(l.length+1)*bytes≤140737488355328) (m:aN≤w.heap.size)
  (h:∀v' w',aM R e aN w' v' (l++[y])→w.grownBy w' v.ownBlock→K (a.put o.dst v') w') :
  if Region.wanted o (yielded ops a.tmps)=true then Oper.wp P o a w K Q else E:=by
 obtain⟨d,q,F,Y⟩:=L;have D:aE w w.heap.size R.size (some ⟨g,0,none⟩) 1 cs:=⟨by rw[R.len k];omega,fun _=>⟨_,_,rfl,r.lt,fun j u n=>by rw[ns,r.cell];simpa using n⟩⟩;exact Hf w b s x t c e i z R.size bytes J hi B V A S G aN v l.length d.flatten f q m w.heap.size _ 1 1 cs X D (R.eB k) H I
  fun v' w' U p _=>h v' w' (aM.push q F Y C Z k U p) p
theorem Gn:∀(l:List (Int×Int)),Cq l=bq l
 | []=>rfl
 |x::r=>by rw[Cq,Gn r];rfl
theorem Zgz {w:World}{aN:Nat}{v:Value}{l:List Bu.PS} (h:w.ownsRow aN 145 4 v l.length (Dk l)) (hi:∀s∈l,bS s.op∧bS s.a∧bS s.aC∧bS (s.go:Int)):aM (kZ 0) 145 aN w v l :=
 aM.ba (fun s=>[Aj s.op,Aj s.a,Aj s.aC,Aj (s.go:Int)]) (fun s x=>by
  obtain⟨k,u,z,y⟩:=hi s x;exact⟨[Aj s.op],[Aj s.a,Aj s.aC,Aj (s.go:Int)],rfl,⟨rfl,k⟩,[Aj s.a],[Aj s.aC,Aj (s.go:Int)],rfl,⟨rfl,u⟩,[Aj s.aC],[Aj (s.go:Int)],rfl,⟨rfl,z⟩,⟨rfl,y⟩⟩) h
theorem Uw {fs:List Bd.aa}(ps:List Bu.aq) {l:List (Int×Int)} {c:Bd.aa} {P:List Bd.Place} (h:Hd.jI l.length fs l c P) (e:l.length≤100000) (hi:∀x∈l,bS x.2):∀s∈(Bu.aY l fs ps).steps,bS s.op∧bS s.a∧bS s.aC∧bS (s.go:Int):=fun s z=>by
 obtain⟨k,q⟩:=List.mem_iff_getElem?.1 z;obtain⟨i,x,y,v,_,_,rfl⟩:=Bu.fE ps h k s q;have p:=Bu.dc ps h;have f:=(aS.1 y).1;obtain⟨j,r⟩:=Uf h y (p.aR i (by omega) v);have g:=(Hd.cB (h.ok i x y).al).1;have u:=hi x (Bx y);have d:=Bu.fI fs ps l (Ol h y) Aw;have b:Bu.eI fs ps l l.length≤l.length:=by
  have key:∀i,i≤l.length→Bu.eI fs ps l i≤i:=by
   intro i
   induction i with
   |zero=>intro _;exact pp 0
   |succ i ih =>
    intro hi;obtain⟨x,y⟩:∃x,l[i]?=some x:=⟨_,Bg (by omega)⟩;have:=ih (by omega);unfold Bu.eI at this ⊢;rw[Bu.dJ fs ps y];unfold Bu.bu;split
    ·omega
    ·dsimp only;split
     ·rw[Bz,nr];omega
     ·omega
  exact key _ Aw
 unfold bS at u ⊢;simp only;omega
structure jK (ll:List (List (Int×Int))) (l:List (Int×Int)) (fs:List Bd.aa) (ps:List Bu.aq) (es:List Bu.cV):Prop where
 all:Bu.All ll fs ps es
 may:fs.all Bd.cw=true
 tab:∃c P,Hd.jI l.length fs l c P
 ff:∀p∈ps,0≤p.size∧p.size≤20001
theorem Zjs {ll:List (List (Int×Int))} {l:List (Int×Int)} {c:Bd.aa} (h:Bd.program ll l=(c,0)):(Bd.funcs ll).2.2=0∧jK ll l (Bd.funcs ll).1 (Bu.d_ (Bd.funcs ll).1 ll []) (Bu.ek (Bu.d_ (Bd.funcs ll).1 ll []) []):=by
 unfold Bd.program at h;split at h
 ·rename_i z;simp at h;exact absurd h.2 z
 ·rename_i e;have k:(Bd.funcs ll).2.2=0:=by omega
  refine⟨k,?_⟩;have y:=Bu.jN k;generalize (Bd.funcs ll).1=fs at *;generalize Bu.d_ fs ll []=ps at *;generalize Bu.ek ps []=es at *;unfold Bd.fw at h;split at h
  ·rename_i z;simp at h;exact absurd h.2 z
  ·rename_i u;have s:=Bu.fL (l:=l) (cs:=fs) (by omega);obtain⟨P,a⟩:=Hd.eX s;refine⟨y,?_,⟨_,P,a⟩,fun p b=>?_⟩
   ·unfold Bd.aA at u;split at u
    ·assumption
    ·simp at u
   ·obtain⟨j,v⟩:=List.mem_iff_getElem?.1 b;have q:=(aS.1 v).1;obtain⟨_,_,_,_,_,_,x,_⟩:=y.fn j _ (Bg (by rw[←y.pn];exact q));rw[v]at x
    injection x with x
    obtain⟨d,r,_⟩:=Bu.dN (fs.take j) ps (ll[j]'(by rw[←y.pn];exact q));rw[x];exact⟨d,r⟩
theorem jK.plan {ll:List (List (Int×Int))} {l:List (Int×Int)} {fs:List Bd.aa} {ps:List Bu.aq} {es:List Bu.cV} (h:jK ll l fs ps es) (b:∀l∈ll,l.length≤100000) (hi:∀l∈ll,∀x∈l,bS x.2) {j:Nat} {y:List (Int×Int)} (u:ll[j]?=some y) :
  Bu.fB fs (ps.take j) (ps.take j).length y∧ps[j]?=some (Bu.aY y fs (ps.take j))∧(∀s∈(Bu.aY y fs (ps.take j)).steps,bS s.op∧bS s.a∧bS s.aC∧bS (s.go:Int)):=by
 have o:=(aS.1 u).1;obtain⟨d,P,m,n,q,g,v,c,z⟩:=h.all.fn j y u;have i:=h.all.fl;have f:=h.all.pn;have e:Bu.aY y (fs.take j) ps=Bu.aY y fs (ps.take j):=by
  rw[v]at z;exact oK z
 have r:=Mt fs (ps.take j) q h.may fun p v=>h.ff p (p_ v)
 rw[show (fs.take j).length=(ps.take j).length by rw[Dn,Dn];omega]at r;have k:=Bx u;refine⟨r,z,?_⟩;rw[←e];exact Uw ps q (b _ k) (hi _ k)
theorem Zao {w:World}{B:Nat}{t:TypeId}{size n:Nat}{v:Value}{xs:List Value}(h:w.ownsRow 0 t size v n xs)(y:∀g,v.ownBlock=some g→B≤g):w.ownsRow B t size v n xs:=by
 refine⟨h.1,?_⟩;rcases h.2 with h|⟨g,dA,aF,x,_,z⟩
 ·exact .inl h
 ·exact .inr ⟨g,dA,aF,x,y g (by rw[x];rfl),z⟩
def Zdq (w:World)(r:List Sr.bE×Int)(e:Ending)(w':World):Prop:=∃v,e=.returned (.tuple #[v,Aj r.2])∧Below w.heap.size w w'∧w'.ownsRow w.heap.size 50 5 v r.1.length (Cg r.1)
def BdI (x:World)(ps:List Bu.aq)(i:Value)(wr:World):Prop :=
 ∃(k:Nat) (v:Value),k≤ps.length∧i=Aj (k:Int)∧aH wr x.heap.size 86 #[v,.slice none 0 0]∧aM (Kz 0) 89 x.heap.size wr v (ps.take k)∧Below x.heap.size x wr
theorem Zbs:(Tryz.prog.info? 89).map (fun i=>(i.zero,i.size,i.bytes))=some (some (.agg #[.slice none 0 0,Aj 0]),2,32):=by kernel_rfl
theorem aM.d_ {w:World}{aN:Nat}{A:Option Addr}{c:Nat}{q:List Bu.aq} (h:aM (Kz 0) 89 aN w (.slice A q.length c) q):fy w (.slice A q.length c) q:=by
 obtain⟨x,z,e,_,_,y⟩:=h.form;exact⟨x,z,e,y⟩
theorem Zap {w:World}{B:Nat}{t:TypeId}{size:Nat}:w.ownsRow B t size (.slice none 0 0) 0 []:=⟨by simp,.inl ⟨rfl,rfl⟩⟩
theorem Mv (A V:Option Addr)(c F:Nat)(aP:Value)(size:Int) (ll:List (List (Int×Int))) (l:List (Int×Int)) (w:World) (b8:∃a n k,aP=.slice a n k) (hR:cK w w.heap.size A ll) (Z:aE w w.heap.size 2 V l.length (Cq l)) (h5:∀l∈ll,l.length≤100000) (hn:l.length≤100000) (hi:∀l∈ll,∀x∈l,bS x.2) (c2:∀x∈l,bS x.2) :
  Calls Tryz.prog 14 #[.agg #[.slice A ll.length c,.slice V l.length F,aP,Aj size]] w (Zdq w (Bu.build ll l)):=by
 obtain⟨ca,cn,ck,rfl⟩:=b8;have v3:=Aq (fun W h1 h2 h3=>Ly A V c F w.heap.size (.slice ca cn ck) size ll l W ⟨_,_,_,rfl⟩ h1 h2 h3 (fun l Z=>Ex (h5 l Z) (by decide)) (Ex hn (by decide)));have u4:=fun (c:Bd.aa) (h:Bd.program ll l=(c,0))=>Zjs h
 have z:Bu.build ll l=if (Bd.program ll l).2≠0 then([],(Bd.program ll l).2) else if 20000<(Bu.aY l (Bd.funcs ll).1 (Bu.d_ (Bd.funcs ll).1 ll [])).size+1 then([],3) else(Bu.cC (Bu.ek (Bu.d_ (Bd.funcs ll).1 ll []) []) (Bu.aY l (Bd.funcs ll).1 (Bu.d_ (Bd.funcs ll).1 ll [])) 0 0++[⟨42,0,0,0,(Bd.program ll l).1.delta⟩],0):=rfl
 generalize Bd.program ll l=pr at *;obtain⟨⟨c0,C,G,J⟩,e⟩:=pr;simp only at z;have HR:=Aq hR;have HL:=Aq Z;have y2:=Aq (fun W h1 h2=>Ra A c w.heap.size ll W h1 h2 (fun l Z=>Ex (h5 l Z) (by decide)));have L:Below w.heap.size w (w.alloc (.cells #[.slice A ll.length c,.slice V l.length F,.slice ca cn ck,Aj size] 26)):=aI.alloc Aw _;have x8:=Aq (qv w 26 #[.slice A ll.length c,.slice V l.length F,.slice ca cn ck,Aj size]);have M:=Aq L;have x6:=Aq h5;have HN:=Aq hn;have HI:=Aq hi;have c4:=Aq c2;have x7:=Aq u4;have h0:=Aq z;clear hR Z L h5 hi c2 hn u4 z;go_enter Tryz.func14,Tryz.ntmps14;go_wp2_with fail
 refine(v3.o _ (HR.o.below M.o Aw) (HL.o.below M.o Aw) M.o.size).mono ?_;rintro e1 w1⟨rfl,h7⟩;simp only[Tv];have b9:=h7.size;simp only[World.size_alloc]at b9;go_upto_region 2 with fail
 have cm:Below w.heap.size w (w1.alloc (.cells #[Aj c0,Aj C,Aj G,Aj J] 78)):=(M.o.trans (h7.mono M.o.size)).alloc (by omega) _;have h6:aH (w1.alloc (.cells #[Aj c0,Aj C,Aj G,Aj J] 78)) w.heap.size 26 #[.slice A ll.length c,.slice V l.length F,.slice ca cn ck,Aj size]:=aH.alloc ((h7.block _ x8.o.lt).trans x8.o) _;have v9:=qv w1 78 #[Aj c0,Aj C,Aj G,Aj J];have O:=Aq cm;have v0:=Aq h6;have z4:=Aq v9;have v4:=h6.lt;have p0:=h6.cell 0;simp only[Az,Ay,Bc]at p0;clear h7 cm h6 v9 v3 x8 M;generalize w1.alloc (.cells #[Aj c0,Aj C,Aj G,Aj J] 78)=X1 at *;generalize w1.heap.size=cb at *;by_cases he:e=0
 ·subst he;obtain⟨hz,w3⟩:=x7.o _ rfl;have z:=h0.o;rw[if_neg (by simp)]at z;generalize Bd.funcs ll=r at *;obtain⟨fs,f1,f2⟩:=r;simp only at hz w3 z;subst hz;generalize d5:Bu.d_ fs ll []=ps at *;generalize d4:Bu.ek ps []=es at *;have U:=Aq z;have m:=Aq w3;have f:=Aq w3.all.pn;have u0:=Aq w3.all.fl;have S:=Aq w3.all.l20;clear d5 d4 z w3 x7 h0;go_wp2_with fail
  refine(y2.o _ (HR.o.below O.o Aw) O.o.size).mono ?_;rintro e2 j⟨A1,u7,rfl,u6,Ap⟩;have f6:=Ap.size;have z2:Hid (aH j w.heap.size 26 #[.slice A ll.length c,.slice V l.length F,.slice ca cn ck,Aj size]):=Aq ((Ap.block _ v4).trans v0.o);have x2:Hid (aH j cb 78 #[Aj c0,Aj C,Aj G,Aj J]):=Aq ((Ap.block _ z4.o.lt).trans z4.o);have I:Hid (Below w.heap.size w j):=Aq (O.o.trans (Ap.mono O.o.size));have b3:=Aq u6;clear p0 v4 u6 Ap O v0 z4 y2;have p0:=z2.o.cell 0;simp only[Az,Ay,Bc]at p0;have d7:=z2.o.lt;obtain⟨i0,c8,b2,c2,e5⟩:=Eu Zbs;go_wp2_with fail
  go_loopw [34] (fun i W=>BdI j ps i W) (fun i _=>ps.length-(intOf i).toNat)
  case atStart=>exact⟨0,_,By _,rfl,qv _ _ _,qz _ _ _ _,aI.alloc Aw _⟩
  case round =>
   clear p0;obtain⟨k,v,hk,rfl,hB,hO,hb⟩:=hrel;have h8:=hb.size;obtain⟨q,Q⟩:∃q,q=ps.take k:=⟨_,rfl⟩;rw[←Q]at hO;have y0:q.length=k:=by rw[Q,Dn];omega
   obtain⟨X,Y,hv,f0,f5,v6⟩:=hO.form;subst hv;have x3:=Aq (b3.o.below hb Aw);have HOr:=Aq hO;have x9:=Aq hB;have E:=Aq hb;have y6:=Aq v6;have L:=hB.cell 0;simp only[Az,Ay,Bc]at L;have y5:=hB.lt;clear hB hO hb v6;by_cases x4:k<ps.length
   ·obtain⟨x,hx⟩:∃x,ll[k]?=some x:=⟨_,Bg (by have:=f.o;omega)⟩;obtain⟨D,z1,c5⟩:=m.o.plan x6.o HI.o hx;rw[←Q]at D z1 c5;have cY:=Bu.dN fs q x;have hK:=Lz x fs q wr.drew wr.heap.size;generalize b4:Bu.aY x fs q=pl at *;have f3:=x6.o x (Bx hx);obtain⟨vs,u3,a1⟩:=HR.o.below (I.o.trans (E.o.mono I.o.size)) Aw;obtain⟨u,hu,Al,cl,rfl,v7⟩:=a1 k x hx;obtain⟨b,off,rfl,f7,a2⟩:=u3.2 (by have:=f.o;omega);have d0:=a2 _ _ hu;have d2:(k:Int)<ll.length:=by have:=f.o;omega
    have y9:=f.o;have y4:=u0.o;have y3:=S.o;have b0:=Aq (hK Al A1 X cl u7 Y Aw (by rw[←Gn];exact v7.a_ (by omega)) (by exact x3.o.a_ E.o.size) (by exact y6.o) D (by omega) (by omega) (by omega) m.o.may (fun p hp=>m.o.ff p (by rw[Q]at hp;exact p_ hp)));have y7:=Aq c5;have e4:=Aq z1;have HQ:=Aq Q;have z0:=Aq cY;have v8:=Aq y0;have A5:=Aq x4;clear y0 hk x4 y9 y4 y3 hK v7 u3 a1 hu a2 hx D z1 c5 b4 Q cY;go_wp2_with fail
    have hS:wr.drew.cell? ⟨j.heap.size,0,none⟩=some (.slice X q.length Y):=L;refine Cr [6,7,8,10] [1,5] [6,7] 11 (fun wq:World=>wq.cell? ⟨j.heap.size,0,none⟩=some (.slice X q.length Y)) ?_
    iterate 6 (first|refine Be ?_|refine Bj hS ?_)
    refine Bi fun K H=>?_;go_simp
    refine b0.o.mono ?_;rintro e y⟨v5,rfl,w5,cp⟩;have N:Below wr.heap.size wr.drew y:=w5;obtain⟨s,d,y1,a4,z9,hl⟩:=(Zgz cp y7.o).form;subst y1;have c1:=Aq hl;have u2:wr.heap.size≤y.heap.size:=N.size;have a3:Hid (aM (Kz 0) 89 j.heap.size y (.slice X q.length Y) q):=Aq (aM.below (w:=wr.drew) HOr.o N Aw);have d8:Hid (aH y j.heap.size 86 #[.slice X q.length Y,.slice none 0 0]):=Aq ((N.block _ y5).trans x9.o);have c3:Hid (Below j.heap.size j y):=Aq (E.o.drew.trans (N.mono h8));have a6:y.cell? ⟨j.heap.size,0,none⟩=some (.slice X q.length Y):=(N.cell (p:=⟨j.heap.size,0,none⟩) y5).trans L;clear w5 N cp hl;refine H _ _ (fun _=>a6) ?_;clear H K;refine Bi fun K H=>?_;go_simp
    have e3:(y.alloc (.cells #[.slice s pl.steps.length d,Aj pl.size] 89)).cell? ⟨j.heap.size,0,none⟩=some (.slice X q.length Y):=(Cb _ _ _ (by show j.heap.size<_;omega)).trans a6;refine H _ _ (fun _=>e3) ?_;clear H K;refine Bi fun K H=>?_
    refine Wl _ rfl (.tmp 39) (.tmp 45) _ rfl (Kz 0) j.heap.size 89 i0 _ 32 Tryz.underlying84 c8 b2 c2 e5 rfl (by decide) (by decide) (By _) (.slice X q.length Y) q rfl (a3.o.below (aI.alloc Aw _) Aw) y.heap.size [.slice s pl.steps.length d,Aj pl.size] pl rfl (qv _ _ _) ⟨[.slice s pl.steps.length d],[Aj pl.size],rfl,⟨s,d,rfl,a4,z9,(c1.o.below (aI.alloc Aw _) Aw).a_ (by simp)⟩,rfl,by have:=z0.o;unfold bS;simp only;omega⟩ (by have:=f.o;have:=S.o;have:=v8.o;have:=A5.o;unfold maxLen;omega) (by have:=f.o;have:=S.o;have:=v8.o;have:=A5.o;omega) (by simp only[World.size_alloc];omega) ?_;intro v' w6 x5 hg;have bU:=aM.below a3.o ((ds y.heap.size y).alloc Aw (.cells #[.slice s pl.steps.length d,Aj pl.size] 89)) Aw;obtain⟨A6,c6,a0,_⟩:=x5.form;obtain⟨n6,z7⟩:∃n,n=(q++[pl]).length:=⟨_,rfl⟩;rw[←z7]at a0;subst a0;have R:=Aq ((d8.o.alloc (.cells #[.slice s pl.steps.length d,Aj pl.size] 89)).cT bU hg (by decide));have e6:Hid (Below j.heap.size j w6):=Aq (Rq bU (c3.o.alloc (by omega) _) hg (by simp only[World.size_alloc];omega) Aw);have e7:=Aq x5;have x0:=R.o.cell 0;have xf:=R.o.frozen 0;have xl:=R.o.lt;simp only[Az,Ay]at x0;clear x5 hg bU z7;refine Bh H ?_;clear H K
    iterate 1 (first|refine Be ?_|refine Bj hS ?_)
    refine Bi fun K H=>?_;go_simp
    refine Bh H ?_;clear H K;refine Bb ?_;clear hS;have f8:IntKind.i64.wrap ((k:Int)+1)=(k:Int)+1:=Do _ (by have:=A5.o;have:=f.o;have:=S.o;omega);go_wp2_with fail
    go_roundw
    case rel =>
     have e8:k<20:=by have:=A5.o;have:=f.o;have:=S.o;omega
     refine⟨k+1,.slice A6 n6 c6,by have:=A5.o;omega,by simp,R.o.aZ 0 (.slice A6 n6 c6),?_,e6.o.setCell (p:=⟨j.heap.size,0,none⟩) Aw _⟩;have e:ps.take (k+1)=q++[pl]:=by rw[oh,e4.o,HQ.o];rfl
     rw[e];exact e7.o.setCell R.o (by decide) (By _) 0 (.slice A6 n6 c6)
    case measure=>have:=A5.o;have:=f.o;have:=S.o;simp[intOf];omega
   ·obtain rfl:k=ps.length:=by omega
    have d1:q=ps:=by rw[Q,o_]
    subst d1;clear Q;obtain⟨cM,P,hP⟩:=m.o.tab;have y9:=f.o;have y4:=u0.o;have y3:=S.o;have D:=Mt fs q hP m.o.may m.o.ff;rw[show fs.length=q.length by omega]at D;have c5:=Uw q hP HN.o c4.o;have u8:=Js D;have y8:=Qn q hP;rw[show fs.length=q.length by omega]at y8;have v1:=Zkl m.o.all m.o.may m.o.ff x6.o;have u1:=fun hs=>Sm.fD (ps:=q) (es:=es) hP (fun i hi=>(Sm.gk m.o.all i (by omega)).2.2) hs (fun i hi=>(Sm.gk m.o.all i (by omega)).1) 0 0
    have cY:=Bu.dN fs q l;have hK:=Lz l fs q wr wr.heap.size V A1 X F u7 Y Aw (by rw[←Gn];exact(HL.o.below (I.o.trans (E.o.mono I.o.size)) Aw).a_ (by omega)) (x3.o.a_ E.o.size) y6.o D (by omega) HN.o (by omega) m.o.may m.o.ff;have U:=Aq U.o;generalize Bu.aY l fs q=pl at *;have b0:=Aq hK;have y7:=Aq c5;have u9:=Aq y8;have a5:=Aq v1;have u5:=Aq u1;have p1:wr.cell? ⟨w.heap.size,1,none⟩=some (.slice V l.length F):=(E.o.cell (p:=⟨w.heap.size,1,none⟩) d7).trans (z2.o.cell 1);have h4:=Aq cY;have b7:=Aq u8;have d2:¬ ((q.length:Int)<ll.length):=by have:=f.o;omega
    clear y9 y4 y3 hK c5 y8 v1 u1 D hP cM P x3 y6 cY u8 y0 hk x4;go_wp2_with fail
    refine b0.o.mono ?_;rintro e y⟨v5,rfl,w5,cp⟩;obtain⟨s,d,y1,a4,z9,hl⟩:=(Zgz cp y7.o).form;subst y1;have u2:=w5.size;have b5:Below wr.heap.size wr (y.alloc (.cells #[.slice s pl.steps.length d,Aj pl.size] 89)):=w5.alloc (by omega) _;have z0:Hid (fQ (y.alloc (.cells #[.slice s pl.steps.length d,Aj pl.size] 89)) j.heap.size j.heap.size (.slice X q.length Y) (.slice none 0 0) q []):=Aq ⟨(b5.block _ y5).trans x9.o,(HOr.o.below b5 Aw).d_,Zap,Aw,fun g h=>by cases h⟩;have c3:=Aq (I.o.trans ((E.o.trans (b5.mono h8)).mono I.o.size));have a7:Hid (aH (y.alloc (.cells #[.slice s pl.steps.length d,Aj pl.size] 89)) cb 78 #[Aj c0,Aj C,Aj G,Aj J]):=Aq (((E.o.trans (b5.mono h8)).block _ x2.o.lt).trans x2.o);have c1:Hid (af (kZ 0) 145 (y.alloc (.cells #[.slice s pl.steps.length d,Aj pl.size] 89)) (y.alloc (.cells #[.slice s pl.steps.length d,Aj pl.size] 89)).heap.size s pl.steps):=Aq ((hl.below (aI.alloc Aw (.cells #[.slice s pl.steps.length d,Aj pl.size] 89)) Aw).a_ (by simp));have d6:=Aq (qv y 89 #[.slice s pl.steps.length d,Aj pl.size]);have f4:IntKind.i64.wrap (pl.size+1)=pl.size+1:=Do _ (by have:=h4.o;omega);have e0:=x2.o.lt;have a8:=I.o.size;clear w5 cp hl b5 p1 L x9 HOr b0;by_cases z3:(20000:Int)<pl.size+1
    ·have z:=U.o;rw[if_pos z3]at z;have Am:=Aq z;clear z U;go_wp2_with fail
     refine bodyPost_ret (v:=.tuple #[.slice none 0 0,Aj 3]) (by simp[results,Tryz.results14,go_sem]) rfl ⟨.slice none 0 0,?_,c3.o,?_⟩
     ·rw[Am.o]
     ·rw[Am.o];exact Zap
    ·have z:=U.o;rw[if_neg z3]at z;have Am:=Aq z;have Z:=u5.o (by have:=h4.o;omega);have x1:=Aq (Rp es q q.length Aw (fun b1 hj=>a5.o b1 (by have:=f.o;omega)) pl u9.o _ j.heap.size j.heap.size _ _ [] s d 0 0 z0.o (by simp only[World.size_alloc];omega) c1.o (by have:=b7.o;have:=HN.o;omega) (by have:=f.o;have:=S.o;exact⟨by omega,by omega,by omega,by omega⟩) (by rw[Bw];have:=h4.o;omega));have c7:=Aq Z;rw[gs]at x1;generalize Bu.cC es pl 0 0=T at *;clear z U Z u5 a5 u9;go_wp2_with fail
     refine x1.o.mono ?_;rintro e w6⟨rfl,⟨b6,a9⟩,hq⟩;have d3:=hq.below.size;have z6:aH w6 cb 78 #[Aj c0,Aj C,Aj G,Aj J]:=(hq.below.block _ e0).trans a7.o;have k1:=z6.cell 1;simp only[Az,Ay,Bc]at k1;have R:=Aq a9;have z8:=Aq hq;have HZ:=Aq h8;have d9:=Aq u2;have c9:=Aq (show T.length<1000000 by have:=c7.o;have:=h4.o;omega);clear a9 hq a7 z6 x1 c1 d6 z3;go_wp2_with fail
     refine(Em w6 j.heap.size j.heap.size _ b6 q T R.o (by have:=d9.o;have:=HZ.o;simp only[World.size_alloc]at d3;omega) c9.o ⟨42,0,0,0,C⟩).mono ?_;rintro e w7⟨rfl,⟨v2,h9⟩,z5⟩;have k2:=h9.aG.cell 1;simp only[Az,Ay,Bc]at k2;have cm:=c3.o.trans ((z8.o.below.trans z5.below).mono a8);have ho:=Zao h9.aA (B:=w.heap.size) fun g h=>Ex a8 (h9.fd g h)
     clear k1 R z8 h9 z5;go_wp2_with fail
     refine bodyPost_ret (v:=.tuple #[v2,Aj 0]) (by simp[results,Tryz.results14,go_sem]) rfl ⟨v2,?_,cm,?_⟩
     ·rw[Am.o]
     ·rw[Am.o];exact ho
 ·have U:=Aq h0.o;have e9:(e != 0)=true:=by simpa using he
  clear h0 x7 y2;go_wp2_with fail
  refine bodyPost_ret (v:=.tuple #[.slice none 0 0,Aj e]) (by simp[results,Tryz.results14,go_sem]) rfl ⟨.slice none 0 0,?_,O.o,?_⟩
  ·rw[U.o,if_pos he]
  ·rw[U.o,if_pos he];exact Zap
end
end Go.Proofs.YtnhebmgibiomnaaGreat

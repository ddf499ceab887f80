import Derived.Test.YtnhebmgibiomnaaGreatPi12
set_option linter.unusedVariables false
set_option linter.unusedSimpArgs false
set_option maxRecDepth 100000
set_option maxHeartbeats 8000000
namespace Go.Proofs.YtnhebmgibiomnaaGreat
section
open Go.RowKit Mc
def PzV (mb zb B n:Nat)(eA:Option Addr)(es:List Int)(ec:Nat)(i:Nat)(v:Value)(W:World):Prop :=
 match i with
 |0=>v=.pointer (some ⟨mb,0,none⟩)
 |1=>v=Aj n
 |2=>W.ownsRow B 76 2 v n (bu (List.replicate n (0,0)))
 |3=>v=Aj n
 |4=>W.ownsRow B 76 2 v n (bu (List.replicate n (0,0)))
 |5=>v=Aj n
 |6=>W.ownsRow B 3 1 v n (ae (List.replicate n 0))
 |7=>v=.pointer (some ⟨zb,3,none⟩)
 |8=>v=.slice eA es.length ec
 |9=>W.ownsRow B 3 1 v es.length (ae es)
 |10=>True
 |11=>v=.pointer (some ⟨mb,0,none⟩)
 |12=>v=.pointer (some ⟨mb,2,none⟩)
 |_=>True
def PzD (i:Nat)(v:Value)(j:Nat)(u:Value):Prop :=
 match i with
 |2=>match j with|4=>au v u|10=>False|_=>True
 |4=>match j with|2=>au v u|10=>False|_=>True
 |6=>match j with|9=>au v u|10=>False|_=>True
 |9=>match j with|6=>au v u|10=>False|_=>True
 |10=>match j with
  |2=>∃b c d,v=.agg #[u,b,c,d]
  |4=>∃a c d,v=.agg #[a,u,c,d]
  |6=>∃a b d,v=.agg #[a,b,u,d]
  |9=>∃a b c,v=.agg #[a,b,c,u]
  |_=>True
 |_=>True
theorem PzV.cW {mb zb B n:Nat}{eA:Option Addr}{es:List Int}{ec:Nat}{i:Nat}{v:Value}{W W':World}(h:PzV mb zb B n eA es ec i v W)(x:bJ W W'):PzV mb zb B n eA es ec i v W':=by
 match i with
 |0|1|3|5|7|8|10|11|12=>exact h
 |2|4|6|9=>exact Cb h x
 |i+13=>trivial
def NewZ (B n:Nat)(es:List Int)(W:World)(og cu to en:Value):Prop :=
 W.ownsRow B 76 2 og n (bu (List.replicate n (0,0)))∧W.ownsRow B 76 2 cu n (bu (List.replicate n (0,0)))∧W.ownsRow B 3 1 to n (ae (List.replicate n 0))∧W.ownsRow B 3 1 en es.length (ae es)∧au cu og∧au to en
def fO (W:World)(b o:Nat)(z x y u:Value):World:=(((W.setCell ⟨b,o,none⟩ z).setCell ⟨b,o+1,none⟩ x).setCell ⟨b,o+2,none⟩ y).setCell ⟨b,o+3,none⟩ u
theorem ag.zoned {w W:World}{mb:Nat}{O:Nat→Prop}{L:bd}{s:St}(h:ag w mb O L s)(b:bJ w W) (S:s.bH=[]) {n:Nat} {es:List Int} {og cu to en:Value} (Z:NewZ w.heap.size n es W og cu to en) (U:n≤1000000) (V:es.length≤1000000) :
  ∃L',ag (fO W mb 2 og cu to en) mb (ext O w W) L' { s with aT:=List.replicate n (0,0),aF:=List.replicate n (0,0),aB:=List.replicate n 0,aJ:=es }∧Fr O w (fO W mb 2 og cu to en):=by
 obtain⟨q,j,o,l,Q,R⟩:=Z;have z:=b.aG h.aG (fun x=>x);have P:aH (fO W mb 2 og cu to en) mb 212 _:=(((z.aX 2 og).aX 3 cu).aX 4 to).aX 5 en;have e:∀{t:TypeId} {size m:Nat} {v:Value} {xs:List Value},W.ownsRow w.heap.size t size v m xs→t≠212→Row (fO W mb 2 og cu to en) (ext O w W) t size v m xs:=by
  intro t size m v xs a u;refine⟨Ck (Ck (Ck (Ck a z u.symm 2 og) (z.aX 2 og) u.symm 3 cu) ((z.aX 2 og).aX 3 cu) u.symm 4 to) (((z.aX 2 og).aX 3 cu).aX 4 to) u.symm 5 en |> (Cm · (By _)),fun g f=>?_⟩;have:=a.lt g f;exact .inr this
 have r:∀{t:TypeId} {size m:Nat} {v:Value} {xs:List Value},W.ownsRow w.heap.size t size v m xs→∀g,v.ownBlock=some g→w.heap.size≤g:=fun a g f=>(a.lt g f).1
 have y:∀k,k≠mb→(fO W mb 2 og cu to en).heap[k]?=W.heap[k]?:=fun k y=>by
  unfold fO;rw[Bq _ _ _ _ y,Bq _ _ _ _ y,Bq _ _ _ _ y,Bq _ _ _ _ y]
 have X:(fO W mb 2 og cu to en).heap.size=W.heap.size:=by simp[fO,World.setCell]
 refine⟨_,h.kU (w':=fO W mb 2 og cu to en) (O':=ext O w W) P (h.c.lO og cu to en (List.replicate n (0,0)) (List.replicate n (0,0)) (List.replicate n 0) es) (by rw[oG];exact e q (by decide)) (r q) (by rw[oG];exact e j (by decide)) (r j) (by rw[oG];exact e o (by decide)) (r o) (e l (by decide)) (r l) Q R
  (fun k K q _=>(y k q).trans (b.block k (h.eO k K) (fun x=>x))) (fun _ h=>.inl h) (fun k y=>by rw[X];exact h.iB b.size k y) ?_,?_⟩
 ·have d:bI 0:=by unfold bI;omega
  exact h.ok.kU S (fun p i=>by rw[oW i];exact⟨d,d⟩) (fun p i=>by rw[oW i];exact⟨d,d⟩) (fun t H=>by rw[oW H];omega) (by simp) (by simp) (by simpa using U) V
 ·have Y:Fr O w W:=b.mono (fun _ _ x=>x.elim);unfold fO;exact(((Y.setCell (p:=⟨mb,2,none⟩) (.inl h.eu) og).setCell (p:=⟨mb,3,none⟩) (.inl h.eu) cu).setCell (p:=⟨mb,4,none⟩) (.inl h.eu) to).setCell (p:=⟨mb,5,none⟩) (.inl h.eu) en
theorem Hq (n:Int)(w:World):Calls Tryz.prog 98 #[Aj n] w fun e w'=>e=.returned (Aj (bA n))∧w'=w:=(Iz n w).mono fun _ _ h=>⟨h.1,h.2.symm⟩
theorem ag.cuAt {w:World}{mb:Nat}{O:Nat→Prop}{L:bd}{s:St}(h:ag w mb O L s){g n c:Nat} (z:L.cu=.slice (some ⟨g,0,none⟩) n c) {i:Nat} {p:Int×Int} (hi:s.aF[i]?=some p) :
  g<w.heap.size∧w.cell? ⟨g,i*2,none⟩=some (Aj p.1)∧w.cell? ⟨g,i*2+1,none⟩=some (Aj p.2)∧w.frozen? ⟨g,i*2,none⟩=false∧w.frozen? ⟨g,i*2+1,none⟩=false∧w.cell? ⟨mb,3,none⟩=some (.slice (some ⟨g,0,none⟩) n c):=by
 have b:=(aS.1 hi).1;obtain⟨a,r,e,_,_,_,k,v,y⟩:=h.cu.aL (by omega);have u:=h.aG.cell 3;rw[h.c.c3,z]at u;rw[z]at e
 injection e with e x q
 clear x q
 injection e with e
 injection e with e x
 subst e;obtain⟨k0,k1⟩:=Gf hi;rw[oN 2]at k0 k1;exact⟨k,v _ _ k0,v _ _ k1,y _,y _,u⟩
theorem ag.ogAt {w:World}{mb:Nat}{O:Nat→Prop}{L:bd}{s:St}(h:ag w mb O L s){g n c:Nat} (z:L.og=.slice (some ⟨g,0,none⟩) n c) {i:Nat} {p:Int×Int} (hi:s.aT[i]?=some p) :
  g<w.heap.size∧w.cell? ⟨g,i*2,none⟩=some (Aj p.1)∧w.cell? ⟨g,i*2+1,none⟩=some (Aj p.2)∧w.frozen? ⟨g,i*2,none⟩=false∧w.frozen? ⟨g,i*2+1,none⟩=false∧w.cell? ⟨mb,2,none⟩=some (.slice (some ⟨g,0,none⟩) n c):=by
 have b:=(aS.1 hi).1;obtain⟨a,r,e,_,_,_,k,v,y⟩:=h.og.aL (by omega);have u:=h.aG.cell 2;rw[h.c.c2,z]at u;rw[z]at e
 injection e with e x q
 clear x q
 injection e with e
 injection e with e x
 subst e;obtain⟨k0,k1⟩:=Gf hi;rw[oN 2]at k0 k1;exact⟨k,v _ _ k0,v _ _ k1,y _,y _,u⟩
theorem ag.toAt {w:World}{mb:Nat}{O:Nat→Prop}{L:bd}{s:St}(h:ag w mb O L s){g n c:Nat} (y:L.to=.slice (some ⟨g,0,none⟩) n c) {i:Nat} {p:Int} (hi:s.aB[i]?=some p) :
  g<w.heap.size∧w.cell? ⟨g,i,none⟩=some (Aj p)∧w.frozen? ⟨g,i,none⟩=false∧w.cell? ⟨mb,4,none⟩=some (.slice (some ⟨g,0,none⟩) n c):=by
 have b:=(aS.1 hi).1;obtain⟨a,r,e,_,_,_,v,q,u⟩:=h.to.aL (by omega);have z:=h.aG.cell 4;rw[h.c.c4,y]at z;rw[y]at e
 injection e with e x k
 clear x k
 injection e with e
 injection e with e x
 subst e;exact⟨v,q _ _ (Cn hi),u _,z⟩
def et (s:St)(z:Zn)(k:Nat):St := { s with aT:=mk z.aF.length k (oF z) (0,0),aF:=mk z.aF.length k (cF z) (0,0),aB:=mk z.aF.length k (tF z) 0,aJ:=z.aJ }
structure Pi (w:World) (mb:Nat) (O O2:Nat→Prop) (L2:bd) (z:Zn) (B:Nat) (oA:Option Addr) (oc:Nat) (cA:Option Addr) (cc:Nat) (tA:Option Addr) (tc:Nat) (eA:Option Addr) (ec:Nat) (st:St) (wr:World):Prop where
 ma:ag wr mb O2 L2 st
 zb:aH wr w.heap.size 30 #[.slice oA z.aT.length oc,.slice cA z.aF.length cc,.slice tA z.aB.length tc,.slice eA z.aJ.length ec]
 za:dC wr B z oA cA tA eA
 fr:Fr O w wr
structure Os (w:World) (B:Nat) (O O2:Nat→Prop):Prop where
 up:∀k,O k→O2 k
 dn:∀k,O2 k→O k∨w.heap.size<k
 no:¬ O w.heap.size
 bo:∀k,k<B→¬ O k
 bw:B≤w.heap.size
theorem Pi.go {w:World}{mb:Nat}{O O2 q:Nat→Prop}{d r:bd}{z:Zn}{B:Nat}{oA cA tA eA:Option Addr}{oc cc tc ec:Nat}{st s:St}{wr v:World}(h:Pi w mb O O2 d z B oA oc cA cc tA tc eA ec st wr)(y:Os w B O O2)(x:Fr O2 wr v)(c:ag v mb q r s):Pi w mb O q r z B oA oc cA cc tA tc eA ec s v:=by
 have g:=h.fr.size;have f:=y.bw;have n0:¬ O2 w.heap.size:=fun e=>by rcases y.dn _ e with e|e;exact y.no e;omega
 have n1:∀k,k<B→¬ O2 k:=fun k u e=>by rcases y.dn _ e with e|e;exact y.bo k u e;omega
 refine⟨c,x.aG h.zb n0,h.za.aQ fun p b=>x.cell (by omega) (n1 _ b),?_⟩;exact⟨x.os.trans h.fr.os,x.tape.trans h.fr.tape,x.output.trans h.fr.output,Ex h.fr.size x.size,fun k u a=>(x.block k (by omega) (fun e=>by rcases y.dn _ e with e|e;exact a e;omega)).trans (h.fr.block k u a)⟩
theorem Pi.alloc {w:World}{mb:Nat}{O O2:Nat→Prop}{x:bd}{z:Zn}{B:Nat}{oA cA tA eA:Option Addr}{oc cc tc ec:Nat}{st:St}{wr:World}(h:Pi w mb O O2 x z B oA oc cA cc tA tc eA ec st wr)(y:Os w B O O2)(o:Obj):Pi w mb O O2 x z B oA oc cA cc tA tc eA ec st (wr.alloc o) :=
 h.go y ((qF _ _).alloc o) (h.ma.alloc o)
theorem Zcg:(Tryz.prog.info? 252).map (fun i=>(i.zero,i.size,i.bytes))=some (some (.agg #[Aj 0,Aj 0]),2,16):=by kernel_rfl
theorem ag.nH {z w1:World}{mb:Nat}{v:Nat→Prop}{a:bd}{st:St}(h:ag z mb v a st){r:Option Addr}{n p:Nat}(d:a.co=.slice r n p){v':Value}{la e:Int}(o : -1≤la)(w:la<e)(m:e<st.aF.length)(i:st.bH.length<1000000)
  (b:w1.ownsRow 0 252 2 v' (st.bH.length+1) (it st.bH++[Aj (la+1),Aj e])) (s:z.grownBy w1 (Value.slice r n p).ownBlock) (q:v'.ownBlock=(Value.slice r n p).ownBlock∨v'.ownBlock=some z.heap.size) :
  ((∃u,w1.cell? ⟨mb,6,none⟩=some u)∧w1.frozen? ⟨mb,6,none⟩=false∧mb<w1.heap.size)∧(∃L',ag (w1.setCell ⟨mb,6,none⟩ v') mb (ext v z w1) L' { st with bH:=st.bH++[((la+1).toNat,e.toNat)] })∧Fr v z (w1.setCell ⟨mb,6,none⟩ v'):=by
 rw[←d]at s q;have l:Row w1 (ext v z w1) 252 2 v' (st.bH.length+1) (it st.bH++[Aj (((la+1).toNat,e.toNat):Nat×Nat).1,Aj (((la+1).toNat,e.toNat):Nat×Nat).2]):=by
  refine⟨?_,fun g x=>?_⟩
  ·simp only;rw[p_ (by omega),p_ (by omega)];exact b
  ·rcases q with y|y
   ·exact .inl (h.co.2 g (y ▸ x))
   ·rw[y]at x;injection x with x;subst x;exact .inr ⟨Aw,(b.lt _ y).2⟩
 obtain⟨⟨cs,k,H⟩,j,f⟩:=h.mw (c:=((la+1).toNat,e.toNat)) (by simp only;omega) i l s (fun g x=>by
  rcases q with y|y
  ·exact .inl (y ▸ x)
  ·rw[y]at x;injection x with x;exact .inr (by omega))
 refine⟨⟨⟨cs[6]'(by omega),by rw[k.cell];exact qy (by omega)⟩,k.frozen 6,k.lt⟩,j,f⟩
def lN (w:World)(mb:Nat)(O:Nat→Prop)(s:St)(z:Zn)(B:Nat)(oA:Option Addr)(oc:Nat)(cA:Option Addr)(cc:Nat)(tA:Option Addr)(tc:Nat)(eA:Option Addr)(ec:Nat)(l i:Value)(wr:World):Prop :=
 ∃(j:Nat) (la:Int) (x:Nat→Prop) (y:bd) (cs:List (Nat×Nat)),j≤z.aJ.length∧i=Aj j∧l=Aj la∧-1≤la∧la≤z.aF.length∧Os w B O x∧Pi w mb O x y z B oA oc cA cc tA tc eA ec { et s z z.aF.length with bH:=cs } wr∧cs++Mc.eK z.aF.length la (z.aJ.drop j)=Mc.eK z.aF.length (-1) z.aJ∧cs.length≤j
theorem Xm (w:World)(mb:Nat)(O:Nat→Prop)(L:bd)(s:St)(h:ag w mb O L s) (hc:s.bH=[]) (z:Zn) (hz:ek z) (B:Nat) (m4:B≤w.heap.size) (j9:∀k,k<B→¬ O k) (oA cA tA eA:Option Addr) (oc cc tc ec:Nat) (i8:dC w B z oA cA tA eA) :
  Calls Tryz.prog 100 #[.pointer (some ⟨mb,0,none⟩),.agg #[.slice oA z.aT.length oc,.slice cA z.aF.length cc,.slice tA z.aB.length tc,.slice eA z.aJ.length ec]] w (aw w mb O { s with aT:=(List.range z.aF.length).map (oF z),aF:=z.aF.map k2,aB:=(List.range z.aF.length).map (tF z),aJ:=z.aJ,bH:=eK z.aF.length (-1) z.aJ }):=by
 have t5:=h.aG.lt;have HZ:=Aq hz;obtain⟨n1,n2,n3,n4⟩:=hz;have Q:=Aq (h.alloc (.cells #[.slice oA z.aT.length oc,.slice cA z.aF.length cc,.slice tA z.aB.length tc,.slice eA z.aJ.length ec] 30));have HB:=Aq (qG w 30 #[.slice oA z.aT.length oc,.slice cA z.aF.length cc,.slice tA z.aB.length tc,.slice eA z.aJ.length ec]);have g1:=Aq ((qF O w).alloc (.cells #[.slice oA z.aT.length oc,.slice cA z.aF.length cc,.slice tA z.aB.length tc,.slice eA z.aJ.length ec] 30));have j5:dC (w.alloc (.cells #[.slice oA z.aT.length oc,.slice cA z.aF.length cc,.slice tA z.aB.length tc,.slice eA z.aJ.length ec] 30)) B z oA cA tA eA:=i8.aQ fun p q=>Cc w _ p (by omega)
 have a7:=Aq j5;have f8:=Aq j9;have f4:=Aq hc;have e5:=Aq (Zfw z.aF.length n2);have l0:=Aq (Kg z.aF.length n2);have k0:=Aq (h.gZ (pG w.heap.size));clear h i8 j5 j9 hc;go_enter Tryz.func100,Tryz.ntmps100;go_wp2_with fail
 have t0:(w.alloc (.cells #[.slice oA z.aT.length oc,.slice cA z.aF.length cc,.slice tA z.aB.length tc,.slice eA z.aJ.length ec] 30)).heap.size=w.heap.size+1:=by simp
 generalize w.alloc (.cells #[.slice oA z.aT.length oc,.slice cA z.aF.length cc,.slice tA z.aB.length tc,.slice eA z.aJ.length ec] 30)=X at *;refine Ic (PzV mb w.heap.size X.heap.size z.aF.length eA z.aJ ec) PzD (fun W=>bJ X W) bJ (by as_aux_lemma=>kernel_rfl) (by as_aux_lemma=>kernel_rfl) 13 rfl ?_ ?_ ?_ ?_
 ·intro i v W W' hv hr;exact hv.cW hr
 ·exact(qF _ _).drew
 ·intro j ev val W T n R m i4 i9 Y;have z6:=Aq i4;have v0:=Aq i9;have _e0:ev (.tmp 0)=.pointer (some ⟨mb,0,none⟩):=m.dS 0 (by kernel_rfl);have _e3:ev (.tmp 3)=.pointer (some ⟨w.heap.size,0,none⟩):=m.dS 3 (by kernel_rfl);have _e4:ev (.tmp 4)=Aj z.aF.length:=m.dS 4 (by kernel_rfl);have _ec:=m.const;have _ef:=m.func;have a1:=R.aG HB.o (fun x=>x);have z3:=a1.cell 3;simp only[Az,Ay,Ba]at z3;have p5:=a1.lt;have X2:=(Q.o.cW R).aG.lt;have g:=Aq R;have HE:=Aq a7.o.aJ;clear R i4 i9 a1
  match j,n with
  |0,_ =>
   refine⟨_,rfl,rfl,?_⟩;unfold Bl;go_simp;exact⟨rfl,g.o,qF _ _,fun j _=>trivial⟩
  |1,_ =>
   refine⟨_,rfl,rfl,?_⟩;unfold Bl;go_simp;exact⟨rfl,g.o,qF _ _,fun j _=>trivial⟩
  |3,_ =>
   refine⟨_,rfl,rfl,?_⟩;unfold Bl;go_simp;exact⟨rfl,g.o,qF _ _,fun j _=>trivial⟩
  |5,_ =>
   refine⟨_,rfl,rfl,?_⟩;unfold Bl;go_simp;exact⟨rfl,g.o,qF _ _,fun j _=>trivial⟩
  |2,_ =>
   have d1:=Y 1 (by kernel_rfl);have x1:=m.bY 1 14;simp only[PzV]at d1;rw[d1]at x1;have am:=e5.o W;refine⟨_,rfl,rfl,?_⟩;unfold Bl;go_simp;refine⟨Fk (by rw[Ij,oG]) (by have:=g.o.size;omega) (by unfold maxLen;omega),g.o.alloc _,(qF _ _).alloc _,fun j n=>?_⟩;have J:=z6.o j n;have I:=v0.o j n
   match j with
   |4=>exact Nj (by simpa only[PzV]using J) rfl
   |10=>exact absurd (I.symm.trans (by kernel_rfl)) oz
   |0|1|2|3|5|6|7|8|9|11|12=>trivial
   |j+13=>trivial
  |4,_ =>
   have d3:=Y 3 (by kernel_rfl);have x3:=m.bY 3 16;simp only[PzV]at d3;rw[d3]at x3;have am:=e5.o W;refine⟨_,rfl,rfl,?_⟩;unfold Bl;go_simp;refine⟨Fk (by rw[Ij,oG]) (by have:=g.o.size;omega) (by unfold maxLen;omega),g.o.alloc _,(qF _ _).alloc _,fun j n=>?_⟩;have J:=z6.o j n;have I:=v0.o j n
   match j with
   |2=>exact Nj (by simpa only[PzV]using J) rfl
   |10=>exact absurd (I.symm.trans (by kernel_rfl)) oz
   |0|1|3|4|5|6|7|8|9|11|12=>trivial
   |j+13=>trivial
  |6,_ =>
   have d5:=Y 5 (by kernel_rfl);have x5:=m.bY 5 18;simp only[PzV]at d5;rw[d5]at x5;have am:=l0.o W;refine⟨_,rfl,rfl,?_⟩;unfold Bl;go_simp;refine⟨Fk (by rw[Dg,oG,ow]) (by have:=g.o.size;omega) (by unfold maxLen;omega),g.o.alloc _,(qF _ _).alloc _,fun j n=>?_⟩;have J:=z6.o j n;have I:=v0.o j n
   match j with
   |9=>exact Nj (by simpa only[PzV]using J) rfl
   |10=>exact absurd (I.symm.trans (by kernel_rfl)) oz
   |0|1|2|3|4|5|6|7|8|11|12=>trivial
   |j+13=>trivial
  |7,_ =>
   refine⟨_,rfl,rfl,?_⟩;unfold Bl;go_simp;exact⟨rfl,g.o,qF _ _,fun j _=>trivial⟩
  |8,_ =>
   have d7:=Y 7 (by kernel_rfl);have x7:=m.bY 7 20;simp only[PzV]at d7;rw[d7]at x7;refine⟨_,rfl,rfl,?_⟩;unfold Bl;go_simp;exact⟨rfl,g.o,qF _ _,fun j _=>trivial⟩
  |9,_ =>
   have d8:=Y 8 (by kernel_rfl);have x8:=m.bY 8 21;simp only[PzV]at d8;rw[d8]at x8;have p2:=Aq (HE.o.aQ fun p q=>g.o.cell (by omega) (fun x=>x));refine⟨_,rfl,rfl,?_⟩;unfold Bl;go_simp;refine(Gw W eA _ ec _ _ p2.o (Hu _) (by omega)).mono ?_;rintro e w5⟨v5,rfl,f2,k9⟩;refine⟨_,rfl,Cm f2 (by have:=g.o.size;omega),g.o.trans k9,k9,fun j n=>?_⟩;have J:=z6.o j n;have I:=v0.o j n
   match j with
   |6=>exact En (by simpa only[PzV]using J) f2
   |10=>exact absurd (I.symm.trans (by kernel_rfl)) oz
   |0|1|2|3|4|5|7|8|9|11|12=>trivial
   |j+13=>trivial
  |10,_ =>
   have d2:=Y 2 (by kernel_rfl);have x2:=m.bY 2 15;simp only[PzV]at d2;have d4:=Y 4 (by kernel_rfl);have x4:=m.bY 4 17;simp only[PzV]at d4;have d6:=Y 6 (by kernel_rfl);have x6:=m.bY 6 19;simp only[PzV]at d6;have d9:=Y 9 (by kernel_rfl);have x9:=m.bY 9 22;simp only[PzV]at d9;obtain⟨A1,c1,c0⟩:∃A c,val 2=.slice A _ c:=by obtain⟨A,c,e,_⟩:=Bc d2;exact⟨A,c,e⟩
   rw[c0]at x2;obtain⟨A2,c2,v1⟩:∃A c,val 4=.slice A _ c:=by obtain⟨A,c,e,_⟩:=Bc d4;exact⟨A,c,e⟩
   rw[v1]at x4;obtain⟨A3,c3,e1⟩:∃A c,val 6=.slice A _ c:=by obtain⟨A,c,e,_⟩:=Bc d6;exact⟨A,c,e⟩
   rw[e1]at x6;obtain⟨A4,c4,c8⟩:∃A c,val 9=.slice A _ c:=by obtain⟨A,c,e,_⟩:=Bc d9;exact⟨A,c,e⟩
   rw[c8]at x9;have H1:=Aq c0;have H2:=Aq v1;have H3:=Aq e1;have H4:=Aq c8;clear d2 d4 d6 d9 c0 v1 e1 c8;refine⟨_,rfl,rfl,?_⟩;unfold Bl;go_simp;refine⟨trivial,g.o,qF _ _,fun j n=>?_⟩
   match j with
   |2=>exact⟨_,_,_,by rw[H1.o]⟩
   |4=>exact⟨_,_,_,by rw[H2.o]⟩
   |6=>exact⟨_,_,_,by rw[H3.o]⟩
   |9=>exact⟨_,_,_,by rw[H4.o]⟩
   |0|1|3|5|7|8|10|11|12=>trivial
   |j+13=>trivial
  |11,_ =>
   have d0:=Y 0 (by kernel_rfl);have x0:=m.bY 0 13;simp only[PzV]at d0;rw[d0]at x0;refine⟨_,rfl,rfl,?_⟩;unfold Bl;go_simp;exact⟨rfl,g.o,qF _ _,fun j _=>trivial⟩
  |12,_ =>
   have iZ:=Y 11 (by kernel_rfl);have l8:=m.bY 11 24;simp only[PzV]at iZ;rw[iZ]at l8;refine⟨_,rfl,rfl,?_⟩;unfold Bl;go_simp;exact⟨rfl,g.o,qF _ _,fun j _=>trivial⟩
  |i+13,hi=>exact absurd hi (by simp)
 ·intro val W R hV G;have v2:=hV 2 (by simp);have v4:=hV 4 (by simp);have v6:=hV 6 (by simp);have v9:=hV 9 (by simp);have r2:=hV 12 (by simp);simp only[PzV]at v2 v4 v6 v9 r2;have hD:au (val 4) (val 2):=by rcases G 2 4 (by simp) (by simp) (by simp) with h|h;exact qV h;exact h
  have z2:au (val 6) (val 9):=by rcases G 6 9 (by simp) (by simp) (by simp) with h|h;exact h;exact qV h
  have F:∃b c d,val 10=.agg #[val 2,b,c,d]:=by rcases G 10 2 (by simp) (by simp) (by simp) with h|h;exact h;exact h.elim
  have e4:∃a c d,val 10=.agg #[a,val 4,c,d]:=by rcases G 10 4 (by simp) (by simp) (by simp) with h|h;exact h;exact h.elim
  have e6:∃a b d,val 10=.agg #[a,b,val 6,d]:=by rcases G 10 6 (by simp) (by simp) (by simp) with h|h;exact h;exact h.elim
  have e9:∃a b c,val 10=.agg #[a,b,c,val 9]:=by rcases G 10 9 (by simp) (by simp) (by simp) with h|h;exact h;exact h.elim
  obtain⟨b2,c2,d2,F⟩:=F;obtain⟨a4,c4,d4,e4⟩:=e4;obtain⟨a6,b6,d6,e6⟩:=e6;obtain⟨a9,b9,c9,e9⟩:=e9;have g7:val 10=.agg #[val 2,val 4,val 6,val 9]:=by
   rw[F]at e4 e6 e9 ⊢;simp only[Value.agg.injEq,Array.mk.injEq,pH,and_true]at e4 e6 e9 ⊢;exact⟨trivial,e4.2.1,e6.2.2.1,e9.2.2.2⟩
  clear F e4 e6 e9;have r9:=Bc v2;obtain⟨A1,k1,b7,_⟩:=Bc v2;obtain⟨A2,k2,e0,_⟩:=Bc v4;obtain⟨A3,k3,b0,_⟩:=Bc v6;obtain⟨A4,k4,b1,_⟩:=Bc v9;rw[b7,e0,b0,b1]at g7;rw[b7]at v2 hD;rw[e0]at v4 hD;rw[b0]at v6 z2;rw[b1]at v9 z2;obtain⟨P,i2,y4⟩:=Q.o.zoned R f4.o ⟨v2,v4,v6,v9,hD,z2⟩ n2 n4;have g9:=Aq i2;have j7:=Aq (g1.o.trans y4);have s7:=Q.o.eu;have j0:aH (fO W mb 2 (.slice A1 z.aF.length k1) (.slice A2 z.aF.length k2) (.slice A3 z.aF.length k3) (.slice A4 z.aJ.length k4)) w.heap.size 30 #[.slice oA z.aT.length oc,.slice cA z.aF.length cc,.slice tA z.aB.length tc,.slice eA z.aJ.length ec]:=y4.aG HB.o k0.o;have k7:=Aq j0;have i1:dC (fO W mb 2 (.slice A1 z.aF.length k1) (.slice A2 z.aF.length k2) (.slice A3 z.aF.length k3) (.slice A4 z.aJ.length k4)) B z oA cA tA eA:=a7.o.aQ fun p q=>y4.cell (by omega) (f8.o _ q)
  have j1:=Aq i1;have U:=R.aG Q.o.aG (fun x=>x);have g2:∃u,W.cell? ⟨mb,2,none⟩=some u:=⟨_,by rw[U.cell];exact Q.o.c.c2⟩;have g3:∃u,W.cell? ⟨mb,3,none⟩=some u:=⟨_,by rw[U.cell];exact Q.o.c.c3⟩;have g4:∃u,W.cell? ⟨mb,4,none⟩=some u:=⟨_,by rw[U.cell];exact Q.o.c.c4⟩;have g5:∃u,W.cell? ⟨mb,5,none⟩=some u:=⟨_,by rw[U.cell];exact Q.o.c.c5⟩;obtain⟨u2,g2⟩:=g2;obtain⟨u3,g3⟩:=g3;obtain⟨u4,g4⟩:=g4;obtain⟨u5,g5⟩:=g5;have q2:=U.frozen 2;have q3:=U.frozen 3;have q4:=U.frozen 4;have q5:=U.frozen 5;have q6:=U.lt;have m8:=R.size;clear hV G R b7 e0 b0 b1 r9 v2 v4 v6 v9 hD z2 i2 y4 j0 i1 U Q g1 HB a7 e5 l0;unfold wpOp;change (if _ then _ else _);rw[if_pos (by kernel_rfl)];refine .inl ?_;simp only[Lp,Fw,Az,Ay,Ba,px];go_simp;have i7:∀k,ext O X W k→O k∨w.heap.size<k:=fun k f=>by rcases f with f|f;exact .inl f;exact .inr (by omega)
  have C:=Aq (Os.mk (w:=w) (B:=B) (O:=O) (O2:=ext O X W) (fun k h=>.inl h) i7 k0.o f8.o m4);have hk:Hid (Pi w mb O (ext O X W) P z B oA oc cA cc tA tc eA ec (et s z 0) (fO W mb 2 (.slice A1 z.aF.length k1) (.slice A2 z.aF.length k2) (.slice A3 z.aF.length k3) (.slice A4 z.aJ.length k4))):=Aq ⟨by
   have:=g9.o;unfold et;rw[Mt,Mt,Mt];exact this,k7.o,j1.o,j7.o⟩
  unfold fO at hk;clear g9 j7 k7 j1 i7 g2 g3 g4 g5 q2 q3 q4 q5 q6 m8 g7;generalize ((((W.setCell ⟨mb,2,none⟩ (.slice A1 z.aF.length k1)).setCell ⟨mb,3,none⟩ (.slice A2 z.aF.length k2)).setCell ⟨mb,4,none⟩ (.slice A3 z.aF.length k3)).setCell ⟨mb,5,none⟩ (.slice A4 z.aJ.length k4))=W2 at hk ⊢;generalize ext O X W=O2 at *;generalize s1:X.heap.size=X1 at *;have z0:=hk.o.zb.cell;have z1:=hk.o.zb.lt;have y1:=z0 1;simp only[Az,Ay,Ba]at y1;clear z0;go_wp2_with fail
  clear y1 z1;go_loopw [29] (fun i wr=>∃k:Nat,k≤z.aF.length∧i=Aj k∧Pi w mb O O2 P z B oA oc cA cc tA tc eA ec (et s z k) wr) (fun i _=>z.aF.length-(intOf i).toNat)
  case atStart=>exact⟨0,By _,rfl,hk.o⟩
  case round =>
   clear hk;obtain⟨k,f,rfl,q⟩:=hrel;by_cases t9:(k:Int)<z.aF.length
   ·obtain⟨⟨x,y⟩,y6⟩:∃p,z.aF[k]?=some p:=⟨_,Bf (by omega)⟩;obtain⟨cb,co,p4,t6,v8⟩:=q.za.aF.aL (by omega);subst p4;have x0:=v8 _ _ (Gf y6).1;have x1:=v8 _ _ (Gf y6).2;rw[oN 2]at x0 x1;rw[←mt]at x1;dsimp only at x0 x1;have X5:=q.fr.size;have n9:cb<wr.heap.size:=by omega
    have j6:(et s z k).aF.length=z.aF.length:=Fc _ _ _ _;have e8:(et s z k).aT.length=z.aF.length:=Fc _ _ _ _;have i5:(et s z k).aB.length=z.aF.length:=Fc _ _ _ _;obtain⟨gc,kc,hG,p9,_,b5,s3,bM,L2⟩:=q.ma.cu.aL (by omega);obtain⟨go,ko,HX,r8,_,z5,s0,m0,o2⟩:=q.ma.og.aL (by omega);obtain⟨gt,kt,y8,q0,_,i3,X6,p3,q1⟩:=q.ma.to.aL (by omega);rw[j6]at hG p9;rw[e8]at HX r8;rw[i5]at y8 q0;have HP:=Aq q;have l7:=Aq y6;have z9:=Aq hG;have y9:=Aq HX;have y7:=Aq y8;have X4:gc≠go:=fun e=>q.ma.bS gc (by rw[hG];rfl) (by rw[HX,←e];rfl)
    have t2:gc≠mb:=q.ma.cu.cD q.ma.aG (by decide) (by rw[hG];rfl);have t7:go≠mb:=q.ma.og.cD q.ma.aG (by decide) (by rw[HX];rfl);have t1:gt≠mb:=q.ma.to.cD q.ma.aG (by decide) (by rw[y8];rfl);clear q v8 bM m0 p3 L2 o2 q1 y6 hG HX y8 j6 e8 i5;go_wp2_with fail
    have hp:=Aq (HP.o.alloc C.o (.cells #[Aj x,Aj y] 76));have v3:=Aq (qG wr 76 #[Aj x,Aj y]);have m5:=Aq (HP.o.ma.gZ (pG wr.heap.size));clear HP x0 x1 n9;generalize wr.alloc (.cells #[Aj x,Aj y] 76)=W3 at *;generalize wr.heap.size=pb at *;have p0:=v3.o.cell 0;have p1:=v3.o.cell 1;simp only[Az,Ay,Ba]at p0 p1;have c3:=hp.o.ma.aG.cell 3;rw[hp.o.ma.c.c3,z9.o]at c3;obtain⟨t3,X3,E,_,_,_,n5,bM,L2⟩:=hp.o.ma.cu.aL (by unfold et;rw[Fc];omega);rw[z9.o]at E
    injection E with E F e3
    clear F e3
    injection E with E
    injection E with E F
    clear F;subst E;have b8:(et s z k).aF[k]?=some (0,0):=by unfold et;rw[Ji (by omega),if_neg (by omega)]
    have r0:=bM _ _ (Gf b8).1;have r1:=bM _ _ (Gf b8).2;rw[oN 2]at r0 r1;dsimp only at r0 r1;have f0:=L2 (k*2);have f1:=L2 (k*2+1);have m7:=hp.o.ma.aG.lt;have X7:pb≠gc:=fun e=>m5.o (e ▸ b5)
    clear bM L2 b8;go_still_tail 14,(by kernel_rfl)
    still_call (Hq x _)
    repeat still_step
    still_call (Hq y _)
    repeat still_step
    refine wpStill_nil ?_;change wpList _ _ _ _ _ W3.drew;go_wp2_with fail
    have hj:=Aq (hp.o.go C.o (((qF O2 W3).setCell (p:=⟨gc,k*2,none⟩) (.inl b5) (Aj (bA x))).setCell (p:=⟨gc,k*2+1,none⟩) (.inl b5) (Aj (bA y))).drew (hp.o.ma.layCu z9.o (i:=k) (by simp only[et];rw[Fc];omega) (Fq x) (Fq y)).drew);have a3:Hid (cF z k=(bA x,bA y)):=Aq (by unfold cF;rw[De l7.o];rfl);clear hp v3 p0 p1 c3 r0 r1 f0 f1 m7 n5;generalize (((W3.setCell ⟨gc,k*2,none⟩ (Aj (bA x))).setCell ⟨gc,k*2+1,none⟩ (Aj (bA y))).drew)=W4 at *;obtain⟨q7,r4,s4,_,_,c4⟩:=hj.o.ma.cuAt z9.o (i:=k) (p:=(bA x,bA y)) (by simp only[et];rw[pO (by rw[Fc];omega)]);obtain⟨r3,r5,s5,f5,f6,c5⟩:=hj.o.ma.ogAt y9.o (i:=k) (p:=(0,0)) (by simp only[et];rw[Ji (by omega),if_neg (by omega)]);dsimp only at r4 s4 r5 s5;have o5:=hj.o.ma.aG.lt;go_region;have K:=Aq (hj.o.go C.o (((qF O2 W4).setCell (p:=⟨go,k*2,none⟩) (.inl z5) (Aj (bA x))).setCell (p:=⟨go,k*2+1,none⟩) (.inl z5) (Aj (bA y))).drew (hj.o.ma.mE y9.o (i:=k) (by simp only[et];rw[Fc];omega) (Fq x) (Fq y)).drew);clear hj r4 s4 c4 r5 s5 f5 f6 c5 q7 r3 o5;generalize (((W4.setCell ⟨go,k*2,none⟩ (Aj (bA x))).setCell ⟨go,k*2+1,none⟩ (Aj (bA y))).drew)=V at *;have y0:=K.o.zb.cell 0;simp only[Az,Ay]at y0;have m2:=K.o.zb.lt;by_cases X0:(k:Int)<z.aT.length
    ·obtain⟨⟨x',y'⟩,z7⟩:∃p,z.aT[k]?=some p:=⟨_,Bf (by omega)⟩;obtain⟨ob,oo,p7,bU,a2⟩:=K.o.za.aT.aL (by omega);subst p7;have x4:=a2 _ _ (Gf z7).1;have x5:=a2 _ _ (Gf z7).2;rw[oN 2]at x4 x5;rw[←mt]at x5;dsimp only at x4 x5;have p6:ob<V.heap.size:=by have:=K.o.fr.size;omega
     obtain⟨l4,r6,s6,f6,g6,c6⟩:=K.o.ma.ogAt y9.o (i:=k) (p:=(bA x,bA y)) (by simp only[et];rw[pO (by rw[Fc];omega)]);dsimp only at r6 s6;have n7:=K.o.ma.aG.lt;have j3:=Aq (K.o.go C.o (((qF O2 V).setCell (p:=⟨go,k*2,none⟩) (.inl z5) (Aj (bA x'))).setCell (p:=⟨go,k*2+1,none⟩) (.inl z5) (Aj (bA y'))).drew (K.o.ma.mE y9.o (i:=k) (by simp only[et,Dh];rw[Fc];omega) (Fq x') (Fq y')).drew);have e2:Hid (oF z k=(bA x',bA y')):=Aq (by unfold oF;rw[z7];rfl);clear a2 z7 K;go_wp2_with fail
     go_still_tail 22,(by kernel_rfl)
     still_call (Hq x' _)
     repeat still_step
     still_call (Hq y' _)
     repeat still_step
     refine wpStill_nil ?_;change wpList _ _ _ _ _ V.drew;go_upto_region 10 with fail
     clear y0 m2 x4 x5 p6 l4 r6 s6 f6 g6 c6 n7;generalize (((V.setCell ⟨go,k*2,none⟩ (Aj (bA x'))).setCell ⟨go,k*2+1,none⟩ (Aj (bA y'))).drew)=W6 at *;have r:Hid (Pi w mb O O2 P z B (some ⟨ob,oo,none⟩) oc (some ⟨cb,co,none⟩) cc tA tc eA ec { et s z k with aT:=mk z.aF.length (k+1) (oF z) (0,0),aF:=mk z.aF.length (k+1) (cF z) (0,0) } W6):=Aq (by
      have:=j3.o;simp only[et]at this ⊢;rw[List.set_set,←e2.o,←a3.o,Lc (by omega),Lc (by omega)]at this;exact this)
     clear j3;have y2:=r.o.zb.cell 2;simp only[Az,Ay,Ba]at y2;have l2:=r.o.zb.lt;by_cases l9:(k:Int)<z.aB.length
     ·obtain⟨H,M⟩:∃t,z.aB[k]?=some t:=⟨_,Bf (by omega)⟩;obtain⟨tb,b3,v7,o0,hd⟩:=r.o.za.aB.aL (by omega);subst v7;have x3:=hd _ _ (Cn M);have o9:tb<W6.heap.size:=by have:=r.o.fr.size;omega
      obtain⟨o6,r7,f7,c7⟩:=r.o.ma.toAt y7.o (i:=k) (p:=0) (by simp only[et];rw[Ji (by omega),if_neg (by omega)]);have q9:=r.o.ma.aG.lt;have W5:=Aq (r.o.go C.o (((qF O2 W6).setCell (p:=⟨gt,k,none⟩) (.inl i3) (Aj (H % 4))).drew) (r.o.ma.kP y7.o (i:=k) (by simp only[et];rw[Fc];omega) (t:=H % 4) (by omega)).drew);have S:Hid (tF z k=H % 4):=Aq (by unfold tF;rw[De M]);have N:Hid (Pi w mb O O2 P z B (some ⟨ob,oo,none⟩) oc (some ⟨cb,co,none⟩) cc (some ⟨tb,b3,none⟩) tc eA ec (et s z (k+1)) ((W6.setCell ⟨gt,k,none⟩ (Aj (H % 4))).drew)):=Aq (by
       have:=W5.o;simp only[et]at this ⊢;rw[←S.o,Lc (by omega)]at this;rw[←S.o];exact this)
      have o8:=Rz H;clear hd M W5 r;go_wp2_with fail
      go_region;go_wp2_with fail
      go_roundw
      case rel=>exact⟨k+1,by omega,by go_num,N.o⟩
      case measure=>simp[intOf];omega
     ·have S:Hid (mk z.aF.length k (tF z) 0=mk z.aF.length (k+1) (tF z) 0):=Aq (Zbp fun _=>by unfold tF;rw[Bo,ge (by omega)];rfl);have N:Hid (Pi w mb O O2 P z B (some ⟨ob,oo,none⟩) oc (some ⟨cb,co,none⟩) cc tA tc eA ec (et s z (k+1)) W6):=Aq (by
       have:=r.o;simp only[et]at this ⊢;rw[S.o]at this;exact this)
      clear r;go_wp2_with fail
      go_roundw
      case rel=>exact⟨k+1,by omega,by go_num,N.o⟩
      case measure=>simp[intOf];omega
    ·have e2:Hid (oF z k=(bA x,bA y)):=Aq (by unfold oF;rw[ge (by omega),Option.getD_none];exact a3.o);have r:Hid (Pi w mb O O2 P z B oA oc (some ⟨cb,co,none⟩) cc tA tc eA ec { et s z k with aT:=mk z.aF.length (k+1) (oF z) (0,0),aF:=mk z.aF.length (k+1) (cF z) (0,0) } V):=Aq (by
      have:=K.o;simp only[et]at this ⊢;rw[←e2.o,Lc (by omega),e2.o,←a3.o,Lc (by omega)]at this;exact this)
     clear K;have y2:=r.o.zb.cell 2;simp only[Az,Ay,Ba]at y2;have l2:=r.o.zb.lt;by_cases l9:(k:Int)<z.aB.length
     ·obtain⟨H,M⟩:∃t,z.aB[k]?=some t:=⟨_,Bf (by omega)⟩;obtain⟨tb,b3,v7,o0,hd⟩:=r.o.za.aB.aL (by omega);subst v7;have x3:=hd _ _ (Cn M);have o9:tb<V.heap.size:=by have:=r.o.fr.size;omega
      obtain⟨o6,r7,f7,c7⟩:=r.o.ma.toAt y7.o (i:=k) (p:=0) (by simp only[et];rw[Ji (by omega),if_neg (by omega)]);have q9:=r.o.ma.aG.lt;have W5:=Aq (r.o.go C.o (((qF O2 V).setCell (p:=⟨gt,k,none⟩) (.inl i3) (Aj (H % 4))).drew) (r.o.ma.kP y7.o (i:=k) (by simp only[et];rw[Fc];omega) (t:=H % 4) (by omega)).drew);have S:Hid (tF z k=H % 4):=Aq (by unfold tF;rw[De M]);have N:Hid (Pi w mb O O2 P z B oA oc (some ⟨cb,co,none⟩) cc (some ⟨tb,b3,none⟩) tc eA ec (et s z (k+1)) ((V.setCell ⟨gt,k,none⟩ (Aj (H % 4))).drew)):=Aq (by
       have:=W5.o;simp only[et]at this ⊢;rw[←S.o,Lc (by omega)]at this;rw[←S.o];exact this)
      have o8:=Rz H;clear hd M W5 r;go_wp2_with fail
      go_region;go_wp2_with fail
      go_roundw
      case rel=>exact⟨k+1,by omega,by go_num,N.o⟩
      case measure=>simp[intOf];omega
     ·have S:Hid (mk z.aF.length k (tF z) 0=mk z.aF.length (k+1) (tF z) 0):=Aq (Zbp fun _=>by unfold tF;rw[Bo,ge (by omega)];rfl);have N:Hid (Pi w mb O O2 P z B oA oc (some ⟨cb,co,none⟩) cc tA tc eA ec (et s z (k+1)) V):=Aq (by
       have:=r.o;simp only[et]at this ⊢;rw[S.o]at this;exact this)
      clear r;go_wp2_with fail
      go_roundw
      case rel=>exact⟨k+1,by omega,by go_num,N.o⟩
      case measure=>simp[intOf];omega
   ·have o3:k=z.aF.length:=by omega
    subst o3;have y3:=q.zb.cell 3;simp only[Az,Ay,Ba]at y3;have n0:=q.zb.lt;have g0:(et s z z.aF.length).bH=[]:=f4.o;have j2:Hid (lN w mb O s z B oA oc cA cc tA tc eA ec (Aj (-1)) (Aj 0) wr):=Aq ⟨0,-1,O2,P,[],By _,rfl,rfl,by omega,by omega,C.o,by
     have:et s z z.aF.length = { et s z z.aF.length with bH:=[] } := by rw[←g0]
     rw[←this];exact q,by simp,Aw⟩
    clear q g0 C;go_wp2_with fail
    clear y3 n0;go_loopw [7,112] (fun la i wr=>lN w mb O s z B oA oc cA cc tA tc eA ec la i wr) (fun _ i _=>z.aJ.length-(intOf i).toNat)
    case atStart=>exact j2.o
    case round =>
     clear j2;obtain⟨j,la,O3,L3,cs,n,rfl,rfl,i6,m1,D,q,Z,X8⟩:=hrel;by_cases t8:(j:Int)<z.aJ.length
     ·obtain⟨e,he⟩:∃e,z.aJ[j]?=some e:=⟨_,Bf (by omega)⟩;obtain⟨eb,eo,l1,s9,b4⟩:=q.za.aJ.aL (by omega);subst l1;have x6:=b4 _ _ (Cn he);have t4:eb<wr.heap.size:=by have:=q.fr.size;omega
      have a0:z.aJ.drop j=e::z.aJ.drop (j+1):=by rw[pI (by omega)];congr 1;have:=Bf (l:=z.aJ) (i:=j) (by omega);rw[this]at he;exact oU he
      rw[a0,Mc.eK]at Z;by_cases e7:la<e∧e<(z.aF.length:Int)
      ·obtain⟨z4,a8⟩:=e7;rw[if_pos ⟨z4,a8⟩]at Z;obtain⟨Ac,kc,z8,_,_⟩:=q.ma.co.form;have c6:=q.ma.aG.cell 6;rw[q.ma.c.c6,z8]at c6;have s8:=q.ma.aG.lt;have f3:=Aq (q.ma.alloc (.cells #[Aj (la+1),Aj e] 252));have k8:=Aq (q.alloc D (.cells #[Aj (la+1),Aj e] 252));have m9:=Aq z8;have tt:=Aq D;have o4:=Aq Z;have k5:(wr.alloc (.cells #[Aj (la+1),Aj e] 252)).ownsRow 0 252 2 (.slice Ac cs.length kc) cs.length (it cs):=by
        have:=f3.o.co.1;rw[z8]at this;exact this
       have o7:=Aq k5;have n8:=Aq (qM (cs:=[Aj (la+1),Aj e]) (qG wr 252 #[Aj (la+1),Aj e]) 2 1 rfl);have s2:IntKind.i64.wrap (la+1)=la+1:=by rw[Do _ (by omega)]
       obtain⟨i0,l5,o1,m3,n6⟩:=Fe Zcg;clear q b4 he a0 z8 k5 D Z;go_wp2_with (at_builtin;refine Cp _ rfl (.tmp 128) (.tmp 133) _ rfl 0 252 i0 _ 2 16 Tryz.underlying209 l5 o1 m3 n6 rfl (show 0<2 by decide) (.slice Ac cs.length kc) cs.length (it cs) rfl o7.o _ _ 1 1 [Aj (la+1),Aj e] rfl n8.o (by simp[Value.oneCell']) (by unfold maxLen;omega) (by omega) (By _) ?_;intro v' w1 a5 g8 f9;obtain⟨⟨⟨u6,k6⟩,f6,l6⟩,⟨L4,j8⟩,j4⟩:=f3.o.nH m9.o (la:=la) (e:=e) i6 z4 (by simp only[et];rw[Fc];exact a8) (by simp only;omega) a5 g8 f9;have l3:=Aq j8;have m6:=Aq j4;obtain⟨Av,cv,p8,_,_⟩:=Bc a5;clear j8 j4 a5 g8 f9;subst p8)
       have y5:Hid (lN w mb O s z B oA oc cA cc tA tc (some ⟨eb,eo,none⟩) ec (Aj e) (Aj ((j:Int)+1)) (w1.setCell ⟨mb,6,none⟩ (.slice Av (cs.length+1) cv))):=Aq (by
        have p5:=k8.o.zb.lt;refine⟨j+1,e,_,L4,cs++[((la+1).toNat,e.toNat)],by omega,by simp,rfl,by omega,by omega,⟨fun k f=>.inl (tt.o.up k f),fun k f=>?_,tt.o.no,tt.o.bo,tt.o.bw⟩,k8.o.go tt.o m6.o l3.o,by rw[ox];exact o4.o,by simp;omega⟩;rcases f with f|f
        ·exact tt.o.dn k f
        ·exact .inr (by omega))
       refine⟨y5.o,by simp[intOf];omega⟩
      ·rw[if_neg e7]at Z;have y5:Hid (lN w mb O s z B oA oc cA cc tA tc (some ⟨eb,eo,none⟩) ec (Aj la) (Aj ((j:Int)+1)) wr):=Aq ⟨j+1,la,O3,L3,cs,by omega,by simp,rfl,i6,m1,D,q,Z,by omega⟩;clear q b4 he a0 D Z;by_cases z4:la<e
       ·have a8:¬ e<(z.aF.length:Int):=fun h=>e7 ⟨z4,h⟩
        go_wp2_with fail
        refine⟨y5.o,by simp[intOf];omega⟩
       ·go_wp2_with fail
        refine⟨y5.o,by simp[intOf];omega⟩
     ·have q8:j=z.aJ.length:=by omega
      subst q8;have HE:Hid (aw w mb O { s with aT:=(List.range z.aF.length).map (oF z),aF:=z.aF.map Mc.k2,aB:=(List.range z.aF.length).map (tF z),aJ:=z.aJ,bH:=eK z.aF.length (-1) z.aJ } (.returned (.tuple #[])) wr):=Aq (by
       refine⟨rfl,⟨L3,?_⟩,q.fr⟩;have hm:=q.ma.mono (O':=ext O w wr) (fun k f=>by
        rcases D.dn k f with h|h
        ·exact .inl h
        ·exact .inr ⟨by omega,q.ma.eO k f⟩) (fun k f=>by
        rcases f with f|f
        ·exact q.ma.eO k (D.up k f)
        ·exact f.2)
       simp only[et,Tl,Zfl]at hm;rw[List.drop_length,Mc.eK,oO]at Z;rw[Z]at hm;exact hm)
      clear q D Z;go_wp2;go_end0;exact HE.o
def Sg (B:Nat)(W:World)(k:Nat):Prop:=B≤k∧k<W.heap.size
def dw (B:Nat)(W:World)(v:Value) (y:List (Int×Int)):Prop :=
 ∃x aA,v=.slice (some ⟨x,0,none⟩) 1 1∧aH W x 205 #[aA,Aj 0,Aj 0]∧B≤x∧W.ownsRow B 96 2 aA y.length (bu y)
theorem dw.cW {B:Nat}{W W':World}{v:Value} {y:List (Int×Int)} (h:dw B W v y) (z:bJ W W'):dw B W' v y:=by
 obtain⟨q,aA,e,k,u,p⟩:=h;exact⟨q,aA,e,z.aG k (fun x=>x),u,Cb p z⟩
theorem Jb {B y:Nat}{W W':World} (h:dz W (Sg B W) y) (z:bJ W W'):dz W' (Sg B W') y:=by
 have q:=z.size;have p:=h.1;refine h.aQ (z.block y p.2 (fun x=>x)) (fun g t cs v _ _=>z.block g v.2 (fun x=>x)) (fun k u=>⟨u.1,by have:=u.2;omega⟩)
theorem DI.cW {w0 W:World}{n:Nat}(h:DI w0 n W):bJ w0 W:=by
 obtain⟨_,_,_,y⟩:=h;exact qN y (fun _ x _=>x)
theorem DI.deeds {w0 W:World}(h:DI w0 39 W){B:Nat}(v:B≤w0.heap.size):dz W (Sg B W) w0.heap.size:=by
 have y:=h.lt;obtain⟨bs,u,z,p⟩:=h;exact⟨⟨v,y⟩,bs,39,u,fun i a b=>(z i a b).aQ rfl (fun _ _ _ h=>h) (fun k x=>⟨by omega,x.2⟩)⟩
theorem Ye:(Tryz.prog.info? 24).map (fun i=>(i.zero,i.size,i.bytes))=some (some (.slice none 0 0),1,24):=by kernel_rfl
theorem Zbs (n:Nat):madeCells #[Value.slice none 0 0] n=(List.replicate n (Value.slice none 0 0)).toArray:=by
 unfold madeCells;apply Array.toList_inj.1;simp only[pL,pM];rw[qx];exact⟨by simp,by intro b x;simp at x;obtain⟨a,y,rfl⟩:=x;rw[show a % 1=0 by omega];rfl⟩
theorem Xr (n:Nat)(u:n≤1000000)(w:World):(Instr.makeSlice 23 (Aj (n:Int)) (Aj (n:Int))).run Tryz.prog w=.ok (.slice (some ⟨w.heap.size,0,none⟩) n n) (w.alloc (.cells (List.replicate n (Value.slice none 0 0)).toArray 24)):=by
 obtain⟨i,hi,y,z,x⟩:=Fe Ye;have:=Kf (P:=Tryz.prog) 23 24 i _ Tryz.underlying23 hi y n (by rw[x];omega) (by omega) w;rw[z,ow,show (Value.slice none 0 0).cells = #[.slice none 0 0] from rfl,Zbs]at this;exact this
def NwV (u B:Nat)(fA:Option Addr)(fn fc:Nat)(mA:Option Addr) (x:List (Int×Int)) (mc:Nat) (cA:Option Addr) (y cc:Nat) (k:Int) (i:Nat) (v:Value) (W:World):Prop :=
 match i with
 |0=>v=.pointer (some ⟨u,0,none⟩)
 |1=>v=.slice fA fn fc
 |2=>v=Aj fn
 |3=>W.ownsRow B 24 1 v fn (List.replicate fn (.slice none 0 0))
 |4=>v=.pointer (some ⟨u,1,none⟩)
 |5=>v=.slice mA x.length mc
 |6=>W.ownsRow B 96 2 v x.length (bu x)
 |7=>∃aA,v=.agg #[aA,Aj 0,Aj 0]∧W.ownsRow B 96 2 aA x.length (bu x)
 |8=>dw B W v x
 |9=>v=.pointer (some ⟨u,2,none⟩)
 |10=>v=.slice cA y cc
 |11=>v=Aj y
 |12=>W.ownsRow B 3 1 v y (ae (List.replicate y 0))
 |13=>v=.pointer (some ⟨u,3,none⟩)
 |14=>v=Aj k
 |15=>v=Aj (bA k)
 |16=>∃z,v=.map (some z)∧dz W (Sg B W) z
 |17=>∃fu fr cv z,v=.agg #[fu,fr,.slice none 0 0,.slice none 0 0,.slice none 0 0,.slice none 0 0,.slice none 0 0,cv,Aj 0,Aj 0,Aj 0,Aj 0,Aj 0,Aj 0,Aj 0,Aj 0,Aj 0,Aj 0,Aj 0,Aj 0,Aj 0,Aj 0,Aj 0,Aj 0,Aj 0,Aj 0,Aj 0,Aj 0,Aj 0,Aj 0,Aj 0,Aj 0,Aj 0,Aj 0,Aj 0,Aj 0,Aj 0,Aj 0,Aj 0,Aj 0,.slice none 0 0,Aj (bA k),Aj 0,Aj 0,Aj 1,Aj 0,Aj 0,.bool false,Aj 0,.map (some z)]∧W.ownsRow B 24 1 fu fn (List.replicate fn (.slice none 0 0))∧dw B W fr x∧W.ownsRow B 3 1 cv y (ae (List.replicate y 0))∧dz W (Sg B W) z
 |18=>∃mb fu fr cv z,v=.pointer (some ⟨mb,0,none⟩)∧B≤mb∧aH W mb 212 #[fu,fr,.slice none 0 0,.slice none 0 0,.slice none 0 0,.slice none 0 0,.slice none 0 0,cv,Aj 0,Aj 0,Aj 0,Aj 0,Aj 0,Aj 0,Aj 0,Aj 0,Aj 0,Aj 0,Aj 0,Aj 0,Aj 0,Aj 0,Aj 0,Aj 0,Aj 0,Aj 0,Aj 0,Aj 0,Aj 0,Aj 0,Aj 0,Aj 0,Aj 0,Aj 0,Aj 0,Aj 0,Aj 0,Aj 0,Aj 0,Aj 0,.slice none 0 0,Aj (bA k),Aj 0,Aj 0,Aj 1,Aj 0,Aj 0,.bool false,Aj 0,.map (some z)]∧W.ownsRow B 24 1 fu fn (List.replicate fn (.slice none 0 0))∧dw B W fr x∧W.ownsRow B 3 1 cv y (ae (List.replicate y 0))∧dz W (Sg B W) z
 |_=>True
theorem NwV.cW {s B:Nat}{fA:Option Addr}{fn fc:Nat}{mA:Option Addr} {r:List (Int×Int)} {mc:Nat} {cA:Option Addr} {a cc:Nat} {b:Int} {i:Nat} {v:Value} {W W':World} (h:NwV s B fA fn fc mA r mc cA a cc b i v W) (y:bJ W W'):NwV s B fA fn fc mA r mc cA a cc b i v W':=by
 match i with
 |0|1|2|4|5|9|10|11|13|14|15=>exact h
 |3|6|12=>exact Cb h y
 |7=>obtain⟨aA,e,z⟩:=h;exact⟨aA,e,Cb z y⟩
 |8=>exact dw.cW h y
 |16=>obtain⟨u,e,z⟩:=h;exact⟨u,e,Jb z y⟩
 |17=>obtain⟨fu,fr,cv,u,e,z,k,q,p⟩:=h;exact⟨fu,fr,cv,u,e,Cb z y,k.cW y,Cb q y,Jb p y⟩
 |18=>obtain⟨mb,fu,fr,cv,u,e,d,c,z,k,q,p⟩:=h;exact⟨mb,fu,fr,cv,u,e,d,y.aG c (fun x=>x),Cb z y,k.cW y,Cb q y,Jb p y⟩
 |i+19=>trivial
def gN (fn:Nat) (z:List (Int×Int)) (x:Nat) (y:Int):St :=
 {funcs:=List.replicate fn [],aD:=[⟨z,0,0⟩],aT:=[],aF:=[],aB:=[],aJ:=[],bH:=[],aP:=List.replicate x 0,store:=List.replicate 32 0,stack:=[],size:=bA y,look:=0,move:=0,bG:=1,steps:=0,aM:=0,ai:=false,br:=0 }
theorem Ru {W:World}{O:Nat→Prop}:∀n,cL W O (List.replicate n (.slice none 0 0)) (List.replicate n [])
 |0=>trivial
 |n+1=>⟨⟨Eo _ _ _ _,fun g h=>by simp[Value.ownBlock]at h⟩,Ru n⟩
theorem Zag {W:World}{B size n:Nat}{t:TypeId}{v:Value}{xs:List Value}(h:W.ownsRow B t size v n xs):Row W (Sg B W) t size v n xs :=
 ⟨Cm h (By _),fun g x=>h.lt g x⟩
theorem Kq {W:World}{O:Nat→Prop}{size:Nat}{t:TypeId}:Row W O t size (.slice none 0 0) 0 []:=⟨Eo _ _ _ _,fun g h=>by simp[Value.ownBlock]at h⟩
theorem ag.start {W:World}{B mb fn z:Nat} {u:List (Int×Int)} {v:Int} {fu fr cv:Value} {p:Nat} (Y:B≤mb) (q:aH W mb 212 #[fu,fr,.slice none 0 0,.slice none 0 0,.slice none 0 0,.slice none 0 0,.slice none 0 0,cv,Aj 0,Aj 0,Aj 0,Aj 0,Aj 0,Aj 0,Aj 0,Aj 0,Aj 0,Aj 0,Aj 0,Aj 0,Aj 0,Aj 0,Aj 0,Aj 0,Aj 0,Aj 0,Aj 0,Aj 0,Aj 0,Aj 0,Aj 0,Aj 0,Aj 0,Aj 0,Aj 0,Aj 0,Aj 0,Aj 0,Aj 0,Aj 0,.slice none 0 0,Aj (bA v),Aj 0,Aj 0,Aj 1,Aj 0,Aj 0,.bool false,Aj 0,.map (some p)])
  (o:W.ownsRow B 24 1 fu fn (List.replicate fn (.slice none 0 0))) (d:dw B W fr u) (w:W.ownsRow B 3 1 cv z (ae (List.replicate z 0))) (m:dz W (Sg B W) p) (X:fn≤1000000) (e:z≤1000000) (H:u.length≤1000000) :
  ∃L,L.fu=fu∧L.cv=cv∧ag W mb (Sg B W) L (gN fn u z v):=by
 obtain⟨a,aA,rfl,k1,k2,l⟩:=d;refine⟨⟨_,fu,List.replicate fn (.slice none 0 0),.slice (some ⟨a,0,none⟩) 1 1,[aA],.slice none 0 0,.slice none 0 0,.slice none 0 0,.slice none 0 0,.slice none 0 0,cv,.slice none 0 0,p⟩,rfl,rfl,⟨⟨Y,q.lt⟩,fun k j=>j.2,q,?_,?_,?_,Kq,Kq,Kq,Kq,Kq,?_,Kq,Ru fn,⟨Zag l,trivial⟩,dD,dD,dD,dD,dD,dD,dD.symm,m,?_⟩⟩
 ·refine⟨rfl,rfl,fun i x y=>?_,rfl,rfl,rfl,rfl,rfl,rfl,rfl,rfl,rfl,rfl,rfl,rfl,rfl,rfl,rfl,rfl,rfl,rfl⟩;have hi:i<32:=by have:=(aS.1 y).1;simpa [gN]using this
  have K:x=0:=by
   simp only[gN,pT]at y;rw[if_pos hi]at y;exact(oU y).symm
  subst K;simp only;clear y
  match i,hi with
  |0,_=>rfl
  |1,_=>rfl
  |2,_=>rfl
  |3,_=>rfl
  |4,_=>rfl
  |5,_=>rfl
  |6,_=>rfl
  |7,_=>rfl
  |8,_=>rfl
  |9,_=>rfl
  |10,_=>rfl
  |11,_=>rfl
  |12,_=>rfl
  |13,_=>rfl
  |14,_=>rfl
  |15,_=>rfl
  |16,_=>rfl
  |17,_=>rfl
  |18,_=>rfl
  |19,_=>rfl
  |20,_=>rfl
  |21,_=>rfl
  |22,_=>rfl
  |23,_=>rfl
  |24,_=>rfl
  |25,_=>rfl
  |26,_=>rfl
  |27,_=>rfl
  |28,_=>rfl
  |29,_=>rfl
  |30,_=>rfl
  |31,_=>rfl
  |n+32,h=>omega
 ·simp only[gN,oG];exact Zag o
 ·refine⟨⟨by simp[gN,gd],.inr ⟨a,1,_,rfl,By _,k1,Aw,by unfold maxLen;omega,rfl,by simp[gN,gd]⟩⟩,fun g r=>?_⟩;simp only[Value.ownBlock,Bw]at r;subst r;exact⟨k2,k1.lt⟩
 ·simp only[gN,oG];exact Zag w
 ·have b:bI 0:=by unfold bI;omega
  refine⟨by simp[gN],by simp[gN],fun x y=>?_,fun x y=>?_,by simp[gN],by simp[gN],by simp[gN],rfl,by simp[gN],rfl,Fq v,by simp[gN],by simp[gN],by simp[gN],by simp[gN],fun f s=>?_,by simp[gN],fun c Z=>?_,by simpa [gN]using X,by simp[gN],by simp[gN],by simp[gN],by simpa [gN]using e,by simp[gN]⟩
  ·rw[oW y];exact b
  ·rw[oW y];exact b
  ·simp only[gN,py]at s;subst s;exact⟨By _,By _,H⟩
  ·rw[oW Z];simp
structure gW (W:World) (B:Nat) (p:Pg) (fA mA cA:Option Addr):Prop where
 fl:∃cs:List Value,aE W B 1 fA p.funcs.length cs∧∀(i:Nat) aA,p.funcs[i]?=some aA→∃A c,cs[i]?=some (.slice A aA.length c)∧aE W B 2 A aA.length (bu aA)
 eN:aE W B 2 mA p.eN.length (bu p.eN)
 aP:aE W B 1 cA p.aP.length (ae p.aP)
structure lU (p:Pg):Prop where
 fl:p.funcs.length≤1000000
 fc:∀c∈p.funcs,c.length≤1000000
 eN:p.eN.length≤1000000
 aP:p.aP.length≤1000000
theorem gW.aQ {W W':World}{B:Nat}{p:Pg}{fA mA cA:Option Addr}(h:gW W B p fA mA cA)(x:∀q:Addr,q.block<B→W'.cell? q=W.cell? q):gW W' B p fA mA cA:=by
 obtain⟨⟨cs,u,y⟩,k,z⟩:=h;exact⟨⟨cs,u.aQ x,fun i aA v=>by obtain⟨A,c,a,b⟩:=y i aA v;exact⟨A,c,a,b.aQ x⟩⟩,k.aQ x,z.aQ x⟩
def Zdz (w:World)(p:Pg)(z:Zn)(e:Ending)(w':World):Prop :=
 ∃mb O L,e=.returned (.pointer (some ⟨mb,0,none⟩))∧ag w' mb O L (ah p z)∧(∀k,O k→w.heap.size≤k)∧Below w.heap.size w w'
def lD (p:Pg)(k:Nat):St := { gN p.funcs.length p.eN p.aP.length p.size with funcs:=mk p.funcs.length k (fun j=>p.funcs.getD j []) [] }
theorem So (p:Pg)(k:Nat):(lD p k).funcs.length=p.funcs.length:=Fc _ _ _ _
theorem Zew (p:Pg):lD p 0=gN p.funcs.length p.eN p.aP.length p.size:=by unfold lD;rw[Mt];rfl
theorem Zjr {p:Pg}{k:Nat} {aA:List (Int×Int)} (h:k<p.funcs.length) (x:p.funcs[k]?=some aA):{ lD p k with funcs:=(lD p k).funcs.set k aA } = lD p (k+1):=by
 have:=Lc (n:=p.funcs.length) (i:=k) (F:=fun j=>p.funcs.getD j []) (z:=[]) h;rw[show p.funcs.getD k []=aA from De x]at this;unfold lD;simp only;rw[this]
def kL (p:Pg)(k:Nat):St := { lD p p.funcs.length with aP:=mk p.aP.length k (fun j=>bA (p.aP.getD j 0)) 0 }
theorem Zjt (p:Pg)(k:Nat):(kL p k).aP.length=p.aP.length:=Fc _ _ _ _
theorem Zex (p:Pg):kL p 0=lD p p.funcs.length:=by unfold kL;rw[Mt];rfl
theorem Zjs {p:Pg}{k:Nat}{x:Int}(h:k<p.aP.length) (y:p.aP[k]?=some x):{ kL p k with aP:=(kL p k).aP.set k (bA x) } = kL p (k+1):=by
 have:=Lc (n:=p.aP.length) (i:=k) (F:=fun j=>bA (p.aP.getD j 0)) (z:=0) h;rw[show p.aP.getD k 0=x from De y]at this;unfold kL;simp only;rw[this]
theorem Oc {α:Type}(l:List α)(d:α):(List.range l.length).map (fun j=>l.getD j d)=l:=by
 refine oJ fun j=>?_
 rw[Cd];rcases oe j l.length with x|x
 ·rw[oa x,Bf x];simp only[oH,Bo,Bf x,oK]
 ·rw[ge (by simpa using x),ge x];rfl
theorem Zju (p:Pg)(z:Zn):{ kL p p.aP.length with aT:=(List.range z.aF.length).map (oF z),aF:=z.aF.map k2,aB:=(List.range z.aF.length).map (tF z),aJ:=z.aJ,bH:=eK z.aF.length (-1) z.aJ } = ah p z:=by
 unfold kL lD ah;rw[Tl,Tl];have x:(List.range p.aP.length).map (fun j=>bA (p.aP.getD j 0))=p.aP.map bA:=by
  have:=congrArg (List.map bA) (Oc p.aP 0);rw[qa]at this;exact this
 rw[x,Oc];rfl
def Zlf (w:World)(p:Pg)(z:Zn)(mb B1:Nat)(fA:Option Addr)(fc:Nat)(mA:Option Addr)(mc:Nat)(cA:Option Addr)(cc:Nat)(oA:Option Addr)(oc:Nat)(uA:Option Addr)(uc:Nat)(tA:Option Addr)(tc:Nat)(eA:Option Addr)(ec:Nat)(fu cv:Value)(i:Value)(wr:World):Prop :=
 ∃(k:Nat) (L:bd),k≤p.funcs.length∧i=Aj k∧L.fu=fu∧L.cv=cv∧ag wr mb (Sg B1 wr) L (lD p k) ∧
  aH wr w.heap.size 26 #[.slice fA p.funcs.length fc,.slice mA p.eN.length mc,.slice cA p.aP.length cc,Aj p.size]∧aH wr (w.heap.size+1) 30 #[.slice oA z.aT.length oc,.slice uA z.aF.length uc,.slice tA z.aB.length tc,.slice eA z.aJ.length ec]∧bJ w wr∧B1≤wr.heap.size
def Zlg (w:World)(p:Pg)(z:Zn)(mb B1:Nat)(fA:Option Addr)(fc:Nat)(mA:Option Addr)(mc:Nat)(cA:Option Addr)(cc:Nat)(oA:Option Addr)(oc:Nat)(uA:Option Addr)(uc:Nat)(tA:Option Addr)(tc:Nat)(eA:Option Addr)(ec:Nat)(cv:Value)(i:Value)(wr:World):Prop :=
 ∃(k:Nat) (L:bd),k≤p.aP.length∧i=Aj k∧L.cv=cv∧ag wr mb (Sg B1 wr) L (kL p k) ∧
  aH wr w.heap.size 26 #[.slice fA p.funcs.length fc,.slice mA p.eN.length mc,.slice cA p.aP.length cc,Aj p.size]∧aH wr (w.heap.size+1) 30 #[.slice oA z.aT.length oc,.slice uA z.aF.length uc,.slice tA z.aB.length tc,.slice eA z.aJ.length ec]∧bJ w wr∧B1≤wr.heap.size
theorem ag.fuAt {w:World}{mb:Nat}{O:Nat→Prop}{L:bd}{s:St}(h:ag w mb O L s){g n c:Nat} (k:L.fu=.slice (some ⟨g,0,none⟩) n c) {i:Nat} (hi:i<s.funcs.length) :
  (∃u,w.cell? ⟨g,i,none⟩=some u)∧w.frozen? ⟨g,i,none⟩=false∧g<w.heap.size:=by
 obtain⟨r,q,e,_,_,_,z,p,y⟩:=h.fu.aL (by omega);rw[k]at e
 injection e with e x v
 clear x v
 injection e with e
 injection e with e x
 subst e;have a:=h.jV.len;exact⟨⟨_,p i _ (Bf (by omega))⟩,y _,z⟩
theorem Zbi (w:World)(p:Pg)(z:Zn)(hp:lU p)(hz:ek z)(fA mA cA oA tA eA uA:Option Addr)(fc mc cc oc tc ec uc:Nat)(H:gW w w.heap.size p fA mA cA)(E:dC w w.heap.size z oA uA tA eA) :
  Calls Tryz.prog 70 #[.agg #[.slice fA p.funcs.length fc,.slice mA p.eN.length mc,.slice cA p.aP.length cc,Aj p.size],.agg #[.slice oA z.aT.length oc,.slice uA z.aF.length uc,.slice tA z.aB.length tc,.slice eA z.aJ.length ec]] w (Zdz w p z):=by
 have g6:=Aq hp;have f6:=Aq hz;obtain⟨n1,n2,n3,n4⟩:=hp;have a9:=Aq n2;clear n2;have z8:=Aq (Xr p.funcs.length n1);have v7:=Aq (Kg p.aP.length n4);obtain⟨X,S⟩:∃X,X=(w.alloc (.cells #[.slice fA p.funcs.length fc,.slice mA p.eN.length mc,.slice cA p.aP.length cc,Aj p.size] 26)).alloc (.cells #[.slice oA z.aT.length oc,.slice uA z.aF.length uc,.slice tA z.aB.length tc,.slice eA z.aJ.length ec] 30):=⟨_,rfl⟩;have v1:X.heap.size=w.heap.size+1+1:=by rw[S];simp
 have hm:bJ w X:=by rw[S];exact((qF _ w).alloc _).alloc _
 have r:aH X w.heap.size 26 #[.slice fA p.funcs.length fc,.slice mA p.eN.length mc,.slice cA p.aP.length cc,Aj p.size]:=by rw[S];exact(qG _ _ _).alloc _
 have b:aH X (w.heap.size+1) 30 #[.slice oA z.aT.length oc,.slice uA z.aF.length uc,.slice tA z.aB.length tc,.slice eA z.aJ.length ec]:=by rw[S];exact qH _ _ _ (by simp)
 have f8:=Aq hm;have hX:=Aq r;have e8:=Aq b;have g0:=Aq (H.aQ (W':=X) fun q y=>hm.cell y (fun x=>x));have i2:=Aq (E.aQ (W':=X) fun q y=>hm.cell y (fun x=>x));have HX:=Aq S;have v6:=Aq H;have a3:=Aq E;clear S hm r b H E hz;go_enter Tryz.func70,Tryz.ntmps70;go_wp2_with fail
 rw[←HX.o];refine Et (NwV w.heap.size X.heap.size fA p.funcs.length fc mA p.eN mc cA p.aP.length cc p.size) (fun W=>bJ X W) bJ (by as_aux_lemma=>kernel_rfl) (by as_aux_lemma=>kernel_rfl) 19 rfl ?_ ?_ ?_ ?_
 ·intro i v W W' hv hr;exact hv.cW hr
 ·exact(qF _ _).drew
 ·intro e2 ev val W hj l u a;have _e2:ev (.tmp 2)=.pointer (some ⟨w.heap.size,0,none⟩):=u.dS 2 (by kernel_rfl);have _ec:=u.const;have _ef:=u.func;have r:=l.aG hX.o (fun x=>x);have z0:=r.cell 0;have z1:=r.cell 1;have z2:=r.cell 2;have z3:=r.cell 3;simp only[Az,Ay,Ba]at z0 z1 z2 z3;have I:=r.lt;have j:=Aq l;have e3:=Aq g0.o.eN;have Q:=Aq v1;clear l r v1
  match e2,hj with
  |0,_ =>
   refine⟨_,rfl,rfl,?_⟩;unfold Bl;go_simp;exact⟨rfl,j.o,qF _ _⟩
  |1,_ =>
   have d0:=a 0 (by kernel_rfl);have x0:=u.bY 0 10;simp only[NwV]at d0;rw[d0]at x0;refine⟨_,rfl,rfl,?_⟩;unfold Bl;go_simp;exact⟨rfl,j.o,qF _ _⟩
  |2,_ =>
   have d1:=a 1 (by kernel_rfl);have x1:=u.bY 1 11;simp only[NwV]at d1;rw[d1]at x1;refine⟨_,rfl,rfl,?_⟩;unfold Bl;go_simp;exact⟨rfl,j.o,qF _ _⟩
  |3,_ =>
   have d2:=a 2 (by kernel_rfl);have x2:=u.bY 2 12;simp only[NwV]at d2;rw[d2]at x2;have am:=z8.o W;refine⟨_,rfl,rfl,?_⟩;unfold Bl;go_simp;exact⟨Fk (by simp) (by have:=j.o.size;have:=Q.o;omega) (by unfold maxLen;omega),j.o.alloc _,(qF _ _).alloc _⟩
  |4,_ =>
   refine⟨_,rfl,rfl,?_⟩;unfold Bl;go_simp;exact⟨rfl,j.o,qF _ _⟩
  |5,_ =>
   have d4:=a 4 (by kernel_rfl);have x4:=u.bY 4 14;simp only[NwV]at d4;rw[d4]at x4;refine⟨_,rfl,rfl,?_⟩;unfold Bl;go_simp;exact⟨rfl,j.o,qF _ _⟩
  |6,_ =>
   have d5:=a 5 (by kernel_rfl);have x5:=u.bY 5 15;simp only[NwV]at d5;rw[d5]at x5;have f9:=Aq (e3.o.aQ fun p hp=>j.o.cell (by have:=Q.o;omega) (fun x=>x));refine⟨_,rfl,rfl,?_⟩;unfold Bl;go_simp;refine(Rv W mA _ mc _ _ f9.o (Pj _) (by omega)).mono ?_;rintro e Z⟨v5,rfl,G,K⟩;exact⟨_,rfl,Cm G (by have:=j.o.size;have:=Q.o;omega),j.o.trans K,K⟩
  |7,_ =>
   have d6:=a 6 (by kernel_rfl);have x6:=u.bY 6 16;simp only[NwV]at d6;obtain⟨A1,c1,b0⟩:∃A c,val 6=.slice A _ c:=by obtain⟨A,c,e,_⟩:=Bc d6;exact⟨A,c,e⟩
   rw[b0]at x6 d6;have H6:=Aq d6;clear d6;refine⟨_,rfl,rfl,?_⟩;unfold Bl;go_simp;exact⟨⟨_,rfl,H6.o⟩,j.o,qF _ _⟩
  |8,_ =>
   have d7:=a 7 (by kernel_rfl);have x7:=u.bY 7 17;simp only[NwV]at d7;obtain⟨aA,f1,h7⟩:=d7;obtain⟨A1,c1,rfl,_⟩:=Bc h7;rw[f1]at x7;have H7:=Aq h7;clear h7;refine⟨_,rfl,rfl,?_⟩;unfold Bl;go_simp;exact⟨⟨_,_,rfl,qG _ _ _,by have:=j.o.size;have:=Q.o;omega,Cb H7.o ((qF _ _).alloc _)⟩,j.o.alloc _,(qF _ _).alloc _⟩
  |9,_ =>
   refine⟨_,rfl,rfl,?_⟩;unfold Bl;go_simp;exact⟨rfl,j.o,qF _ _⟩
  |10,_ =>
   have d9:=a 9 (by kernel_rfl);have x9:=u.bY 9 19;simp only[NwV]at d9;rw[d9]at x9;refine⟨_,rfl,rfl,?_⟩;unfold Bl;go_simp;exact⟨rfl,j.o,qF _ _⟩
  |11,_ =>
   have kM:=a 10 (by kernel_rfl);have c4:=u.bY 10 20;simp only[NwV]at kM;rw[kM]at c4;refine⟨_,rfl,rfl,?_⟩;unfold Bl;go_simp;exact⟨rfl,j.o,qF _ _⟩
  |12,_ =>
   have iZ:=a 11 (by kernel_rfl);have f4:=u.bY 11 21;simp only[NwV]at iZ;rw[iZ]at f4;have am:=v7.o W;refine⟨_,rfl,rfl,?_⟩;unfold Bl;go_simp;exact⟨Fk (by rw[Dg,oG,ow]) (by have:=j.o.size;have:=Q.o;omega) (by unfold maxLen;omega),j.o.alloc _,(qF _ _).alloc _⟩
  |13,_ =>
   refine⟨_,rfl,rfl,?_⟩;unfold Bl;go_simp;exact⟨rfl,j.o,qF _ _⟩
  |14,_ =>
   have nS:=a 13 (by kernel_rfl);have e7:=u.bY 13 23;simp only[NwV]at nS;rw[nS]at e7;refine⟨_,rfl,rfl,?_⟩;unfold Bl;go_simp;exact⟨rfl,j.o,qF _ _⟩
  |15,_ =>
   have nN:=a 14 (by kernel_rfl);have g1:=u.bY 14 24;simp only[NwV]at nN;rw[nN]at g1;refine⟨_,rfl,rfl,?_⟩;unfold Bl;go_simp;refine(Iz _ _).mono ?_;rintro e Z⟨rfl,rfl⟩;exact⟨_,rfl,rfl,j.o,qF _ _⟩
  |16,_ =>
   refine⟨_,rfl,rfl,?_⟩;unfold Bl;go_simp;refine(Zda W).mono ?_;rintro e Z⟨rfl,y4⟩;have K:bJ W Z:=y4.cW;exact⟨_,rfl,⟨_,rfl,y4.deeds (by have:=j.o.size;have:=Q.o;omega)⟩,j.o.trans K,K⟩
  |17,_ =>
   have J:=a 3 (by kernel_rfl);have x3:=u.bY 3 13;simp only[NwV]at J;have d8:=a 8 (by kernel_rfl);have x8:=u.bY 8 18;simp only[NwV]at d8;have jK:=a 12 (by kernel_rfl);have b5:=u.bY 12 22;simp only[NwV]at jK;have v9:=a 15 (by kernel_rfl);have e0:=u.bY 15 25;simp only[NwV]at v9;have nI:=a 16 (by kernel_rfl);have c8:=u.bY 16 26;simp only[NwV]at nI;obtain⟨A3,c3,e6⟩:∃A c,val 3=.slice A _ c:=by obtain⟨A,c,e,_⟩:=Bc J;exact⟨A,c,e⟩
   rw[e6]at x3 J;obtain⟨F,aA,e5,h8⟩:=d8;rw[e5]at x8;obtain⟨f7,c9,e9⟩:∃A c,val 12=.slice A _ c:=by obtain⟨A,c,e,_⟩:=Bc jK;exact⟨A,c,e⟩
   rw[e9]at b5 jK;rw[v9]at e0;obtain⟨db,a2,y0⟩:=nI;rw[a2]at c8;have H3:=Aq J;have H8:=Aq h8;have b4:=Aq jK;have a5:=Aq y0;clear J h8 jK y0;refine⟨_,rfl,rfl,?_⟩;unfold Bl;go_simp;exact⟨⟨_,_,_,db,rfl,H3.o,⟨F,aA,rfl,H8.o⟩,b4.o,a5.o⟩,j.o,qF _ _⟩
  |18,_ =>
   have lK:=a 17 (by kernel_rfl);have a6:=u.bY 17 27;simp only[NwV]at lK;obtain⟨fu,fr,cv,db,a4,n,V,U,O⟩:=lK;obtain⟨A3,c3,rfl,_⟩:=Bc n;obtain⟨F,aA,rfl,V⟩:=V;obtain⟨f7,c9,rfl,_⟩:=Bc U;rw[a4]at a6;have H1:=Aq n;have H2:=Aq V;have H3:=Aq U;have H4:=Aq O;clear n V U O;refine⟨_,rfl,rfl,?_⟩;unfold Bl;go_simp;exact⟨⟨_,_,_,_,db,rfl,by have:=j.o.size;have:=Q.o;omega,qG _ _ _,Cb H1.o ((qF _ _).alloc _),dw.cW ⟨F,aA,rfl,H2.o⟩ ((qF _ _).alloc _),Cb H3.o ((qF _ _).alloc _),Jb H4.o ((qF _ _).alloc _)⟩,j.o.alloc _,(qF _ _).alloc _⟩
  |i+19,hi=>exact absurd hi (by simp)
 ·intro val W l hV;have v8:=hV 18 (by simp);simp only[NwV]at v8;obtain⟨mb,fu,fr,cv,db,hv,hB,hb,n,V,U,O⟩:=v8;obtain⟨L,C,f,hM⟩:=ag.start hB hb n V U O n1 n4 n3;have v4:=f8.o.trans l;have z6:Hid (Zlf w p z mb X.heap.size fA fc mA mc cA cc oA oc uA uc tA tc eA ec fu cv (Aj 0) W):=Aq ⟨0,L,By _,rfl,C,f,by rw[Zew];exact hM,l.aG hX.o (fun x=>x),l.aG e8.o (fun x=>x),v4,l.size⟩;obtain⟨i5,jV,g9,_,_⟩:=Bc n;obtain⟨g5,i4,g7,_,_⟩:=Bc U;have w5:=l.aG hX.o (fun x=>x);have z0:=w5.cell 0;simp only[Az,Ay]at z0;have I:=w5.lt;clear hV l hb n V U O hM v4 C f w5 z8 v7;unfold wpOp;change (if _ then _ else _);rw[if_pos (by kernel_rfl)];refine .inl ?_;simp only[Lp,Fw,Az,Ay,Ba,px];go_simp;go_wp2_with fail
  clear z0 I;go_loopw [32] (fun i wr=>Zlf w p z mb X.heap.size fA fc mA mc cA cc oA oc uA uc tA tc eA ec fu cv i wr) (fun i _=>p.funcs.length-(intOf i).toNat)
  case atStart=>exact z6.o
  case round =>
   clear z6;obtain⟨k,L1,Y,rfl,C,f,s,r,b,d,P⟩:=hrel;by_cases a8:(k:Int)<p.funcs.length
   ·obtain⟨aA,hd⟩:∃c,p.funcs[k]?=some c:=⟨_,Bf (by omega)⟩;have H:=v6.o.aQ (W':=wr) fun q y=>d.cell y (fun x=>x)
    obtain⟨cs,v3,z7⟩:=H.fl;obtain⟨Ac,b3,y7,z5⟩:=z7 k aA hd;obtain⟨F,fo,b1,i3,v0⟩:=v3.aL (by omega);subst b1;have x0:=v0 _ _ y7;have g2:F<wr.heap.size:=by omega
    have c6:aA.length≤1000000:=a9.o aA (Bz hd);have h2:=So p k;obtain⟨m,kf,T,f3,_,hk,g8,_,_⟩:=s.fu.aL (by rw[h2];omega);rw[h2]at T f3;have c0:=s.aG.cell 0;rw[s.c.c0,T]at c0;have b9:=s.aG.lt;have z4:m≠mb:=s.fu.cD s.aG (by decide) (by rw[T];rfl);have HM:=Aq s;have y6:=Aq z5;have d3:=Aq T;have e4:=Aq C;have b6:=Aq f;have y1:=Aq r;have y2:=Aq b;have D:=Aq d;have f2:=Aq hd;clear s z5 T C f r b d hd v0 y7 z7 v3 H h2;go_wp2_with fail
    go_region_held3 (fun w'=>w'.cell? ⟨mb,0,none⟩=some (.slice (some ⟨m,0,none⟩) p.funcs.length kf)) (first|(go_keep;done)|(refine(ol _ _ _ _ (by intro e;injection e with e;first|exact z4 e|exact z4 e.symm)).trans ?_;assumption))
     (first|(go_at_call 97;refine(Rv wr.drew Ac _ b3 _ _ y6.o (Pj _) (by omega)).mono ?_;rintro e Z⟨v5,rfl,G,K⟩;have hq:=Aq G;have R:=Aq K;obtain⟨M,c5,c2,_,_⟩:=Bc G;subst c2;have B:=Aq (HM.o.drew.cW K);have v2:=B.o.aG.cell 0;rw[B.o.c.c0,d3.o]at v2;obtain⟨r5,f5,l5⟩:=B.o.fuAt d3.o (i:=k) (by rw[So];omega);obtain⟨u5,r5⟩:=r5;have a7:=B.o.aG.lt;clear G K))
    have z9:Hid (ag (Z.setCell ⟨m,k,none⟩ (.slice M aA.length c5)) mb (Sg X.heap.size (Z.setCell ⟨m,k,none⟩ (.slice M aA.length c5))) _ _):=Aq ((B.o.setFu d3.o (i:=k) (O':=Sg X.heap.size Z) (v:=.slice M aA.length c5) (aA:=aA) (by rw[So];omega) ⟨Cm hq.o (By _),fun g hg=>⟨by have:=(hq.o.lt g hg).1;have:wr.drew.heap.size=wr.heap.size:=rfl;omega,(hq.o.lt g hg).2⟩⟩ c6 (fun q y=>⟨y.1,by have:=y.2;have:=R.o.size;have:wr.drew.heap.size=wr.heap.size:=rfl;omega⟩) (fun q y=>y.2)).mono (fun q y=>by simpa [Sg,World.setCell]using y) (fun q y=>y.2));have gv:w.heap.size≠m:=fun e=>by have:=hk.1;omega
    have A5:w.heap.size+1≠m:=fun e=>by have:=hk.1;omega
    have e1:Hid (Zlf w p z mb X.heap.size (some ⟨F,fo,none⟩) fc mA mc cA cc oA oc uA uc tA tc eA ec fu cv (Aj ((k:Int)+1)) (Z.setCell ⟨m,k,none⟩ (.slice M aA.length c5))):=Aq (by
     refine⟨k+1,{ L1 with mO:=L1.mO.set k (.slice M aA.length c5) },by omega,by simp,e4.o,b6.o,?_,((R.o.aG y1.o.drew (fun x=>x)).cZ (p:=⟨m,k,none⟩) gv _),((R.o.aG y2.o.drew (fun x=>x)).cZ (p:=⟨m,k,none⟩) A5 _),?_,?_⟩
     ·have:=z9.o;rw[Zjr (by omega) f2.o]at this;exact this
     ·have hg:=D.o.drew.trans R.o;exact hg.setCell (.inr (by have:=hk.1;simp only;omega)) _
     ·have:=R.o.size;have:wr.drew.heap.size=wr.heap.size:=rfl;simp only[World.setCell,Array.size_modify];omega)
    clear z9 B HM hq R y1 y2 D y6 c0 v2 r5 f5 l5 a7 x0;go_wp2_with fail
    go_roundw
    case rel=>exact e1.o
    case measure=>simp[intOf];omega
   ·have h3:k=p.funcs.length:=by omega
    subst h3;have z2:=r.cell 2;simp only[Az,Ay,Ba]at z2;have I:=r.lt;have y3:Hid (Zlg w p z mb X.heap.size fA fc mA mc cA cc oA oc uA uc tA tc eA ec cv (Aj 0) wr):=Aq ⟨0,L1,By _,rfl,f,by rw[Zex];exact s,r,b,d,P⟩;clear s r b d P C f;go_wp2_with fail
    clear z2 I;go_loopw [49] (fun i wr=>Zlg w p z mb X.heap.size fA fc mA mc cA cc oA oc uA uc tA tc eA ec cv i wr) (fun i _=>p.aP.length-(intOf i).toNat)
    case atStart=>exact y3.o
    case round =>
     clear y3;obtain⟨k,L2,Y,rfl,f,s,r,b,d,P⟩:=hrel;by_cases a8:(k:Int)<p.aP.length
     ·obtain⟨x,hx⟩:∃c,p.aP[k]?=some c:=⟨_,Bf (by omega)⟩;have H:=v6.o.aQ (W':=wr) fun q y=>d.cell y (fun x=>x)
      obtain⟨cb,co,a1,i1,y5⟩:=H.aP.aL (by omega);subst a1;have x0:=y5 _ _ (Cn hx);have g4:cb<wr.heap.size:=by omega
      have hG:=Zjt p k;obtain⟨N,kv,gf,b8,_,fb,i0,a0,y9⟩:=s.cv.aL (by rw[hG];omega);rw[hG]at gf b8;have c7:=s.aG.cell 7;rw[s.c.c7,gf]at c7;have b9:=s.aG.lt;have r0:=a0 k _ (Cn (show (kL p k).aP[k]?=some 0 by unfold kL;rw[Ji (by omega),if_neg (by omega)]));have f0:=y9 k;have gv:w.heap.size≠N:=fun e=>by have:=fb.1;omega
      have A5:w.heap.size+1≠N:=fun e=>by have:=fb.1;omega
      have b2:Hid (Zlg w p z mb X.heap.size fA fc mA mc (some ⟨cb,co,none⟩) cc oA oc uA uc tA tc eA ec cv (Aj ((k:Int)+1)) ((wr.setCell ⟨N,k,none⟩ (Aj (bA x))).drew)):=Aq (by
       refine⟨k+1,L2,by omega,by simp,f,?_,(r.cZ (p:=⟨N,k,none⟩) gv _).drew,(b.cZ (p:=⟨N,k,none⟩) A5 _).drew,?_,?_⟩
       ·have:=(s.ju gf (i:=k) (by rw[hG];omega) (Fq x)).drew;rw[Zjs (by omega) hx]at this;exact this.mono (fun q y=>by simpa [Sg,World.setCell]using y) (fun q y=>y.2)
       ·exact(d.setCell (.inr (by have:=fb.1;simp only;omega)) _).drew
       ·simp only[World.drew,World.setCell,Array.size_modify];exact P)
      clear s r b d P f y5 hx H gf a0 y9 hG;go_wp2_with fail
      go_still_tail 8,(by kernel_rfl)
      still_call (Hq x _)
      repeat still_step
      refine wpStill_nil ?_;change wpList _ _ _ _ _ wr.drew;go_wp2_with fail
      go_roundw
      case rel=>exact b2.o
      case measure=>simp[intOf];omega
     ·have h3:k=p.aP.length:=by omega
      subst h3;have q0:=b.cell 0;have q1:=b.cell 1;have q2:=b.cell 2;have q3:=b.cell 3;simp only[Az,Ay,Ba]at q0 q1 q2 q3;have I:=b.lt;have b7:=d.size;have E:=a3.o.aQ (W':=wr) fun q y=>d.cell y (fun x=>x)
      have y8:=Aq (Xm wr mb (Sg X.heap.size wr) L2 (kL p p.aP.length) s rfl z f6.o w.heap.size b7 (fun k Y e=>by have:=e.1;omega) oA uA tA eA oc uc tc ec E);have D:=Aq d;have g3:=Aq P;clear s r b d P f E;go_wp2_with fail
      refine y8.o.mono ?_;rintro e w9⟨rfl,⟨L9,h1⟩,h4⟩;rw[Zju]at h1;have HE:Hid (Zdz w p z (.returned (.pointer (some ⟨mb,0,none⟩))) w9):=Aq ⟨mb,_,L9,rfl,h1,fun k Y=>by
       rcases Y with Y|Y
       ·have:=Y.1;omega
       ·have:=D.o.size;omega,by
       have n:Below w.heap.size w wr:=qO D.o Aw;exact n.trans (h4.below D.o.size (fun k Y e=>by have:=e.1;omega))⟩
      clear h1 h4 y8;go_wp2;go_ret;exact HE.o
theorem Wy {s:St}:(Mc.step s).1.steps≤s.steps+1:=by
 rcases x:next s with⟨y,o⟩
 cases o with
 |none =>
  rw[dN x];have:y=(next s).1:=by rw[x]
  simp only;rw[this];unfold next;split
  ·simp
  ·split
   ·simp
   ·simp
 |some ins =>
  rw[fL x];obtain⟨f,r,_,_,n,_,_,_,z,_,u,_⟩:=Rf (op:=ins.1) (a:=ins.2) x;simp only;rw[(Ol ins.1 ins.2 (Lq y)).1,z];simp only;omega
theorem Wt {n:Nat}{s s':St} (h:Mc.step s=(s',true)):Mc.steps (n+1) s=Mc.steps n s':=by
 conv=>lhs;unfold Mc.steps
 rw[h]
theorem Sl {n:Nat}{s s':St} (h:Mc.step s=(s',false)):Mc.steps (n+1) s=(s',false):=by
 conv=>lhs;unfold Mc.steps
 rw[h]
theorem nC {n:Nat}{s t:St} (h:Mc.steps n s=(t,false)):Mc.run n s=t:=by unfold Mc.run;rw[h]
theorem Zfh {n:Nat}{s t u:St} (h:Mc.steps n s=(t,true)) (x:next t=(u,none)):Mc.run n s=u:=by unfold Mc.run;rw[h];simp only;rw[x]
theorem Zff {n:Nat}{s t u:St}{i:Int×Int} (h:Mc.steps n s=(t,true)) (x:next t=(u,some i)):Mc.run n s = { u with br:=53 } := by unfold Mc.run;rw[h];simp only;rw[x]
theorem d_.mono {B B':Nat}{s:St}{W:World}{og cu to en cv st sk:Value}(h:d_ B s W og cu to en cv st sk)(x:B'≤B):d_ B' s W og cu to en cv st sk :=
 ⟨Cm h.og x,Cm h.cu x,Cm h.to x,Cm h.en x,Cm h.cv x,Cm h.st x,Cm h.sk x⟩
def nY (w:World)(mb:Nat)(s:St)(wr:World):Prop:=∃O L,ag wr mb O L s∧(∀k,O k→w.heap.size≤k)∧Below w.heap.size w wr
theorem nY.step {w wr w':World}{mb:Nat}{s':St}{O:Nat→Prop}(u:∀k,O k→w.heap.size≤k)(z:Below w.heap.size w wr) (y:∃L',ag w' mb (ext O wr w') L' s') (v:Fr O wr w'):nY w mb s' w':=by
 obtain⟨L',y⟩:=y;exact⟨_,L',y,fun k x=>by
  rcases x with x|x
  ·exact u k x
  ·have:=z.size;omega,z.trans (v.below z.size (fun k x e=>by have:=u k e;omega))⟩
theorem nY.same {w wr w':World}{mb:Nat}{s':St}{O:Nat→Prop}(z:∀k,O k→w.heap.size≤k)(y:Below w.heap.size w wr)(x:∃L',ag w' mb O L' s')(u:Fr O wr w'):nY w mb s' w':=by
 obtain⟨L',x⟩:=x;exact⟨_,L',x,z,y.trans (u.below y.size (fun k v e=>by have:=z k e;omega))⟩
def me (w w1:World)(mb N:Nat)(s:St)(i:Value)(wr:World):Prop :=
 ∃(k:Nat) (t:St),k≤N∧i=Aj k∧nY w1 mb t wr∧Mc.steps N s=Mc.steps (N-k) t∧t.steps≤k∧aH wr (w.heap.size+1+1) 39 #[.slice none 0 0,.slice none 0 0,.slice none 0 0,.slice none 0 0,.slice none 0 0,.slice none 0 0,.slice none 0 0,Aj 0,Aj 0,Aj 0]
theorem Zkb (w:World)(p:Pg)(z:Zn)(hp:lU p)(hz:ek z)(fA mA cA oA tA eA uA:Option Addr)(fc mc cc oc tc ec uc:Nat)(z9:gW w w.heap.size p fA mA cA)(z4:dC w w.heap.size z oA uA tA eA)(n:Int)(hN:n≤1000000) :
  Calls Tryz.prog 55 #[.agg #[.slice fA p.funcs.length fc,.slice mA p.eN.length mc,.slice cA p.aP.length cc,Aj p.size],.agg #[.slice oA z.aT.length oc,.slice uA z.aF.length uc,.slice tA z.aB.length tc,.slice eA z.aJ.length ec],Aj n] w (Um w (Mc.run n.toNat (ah p z))):=by
 obtain⟨X,hX⟩:∃X,X=((w.alloc (.cells #[.slice fA p.funcs.length fc,.slice mA p.eN.length mc,.slice cA p.aP.length cc,Aj p.size] 26)).alloc (.cells #[.slice oA z.aT.length oc,.slice uA z.aF.length uc,.slice tA z.aB.length tc,.slice eA z.aJ.length ec] 30)).alloc (.cells #[.slice none 0 0,.slice none 0 0,.slice none 0 0,.slice none 0 0,.slice none 0 0,.slice none 0 0,.slice none 0 0,Aj 0,Aj 0,Aj 0] 39):=⟨_,rfl⟩;have v7:X.heap.size=w.heap.size+1+1+1:=by rw[hX];simp
 have J:bJ w X:=by rw[hX];exact(((qF _ w).alloc _).alloc _).alloc _
 have A2:aH X w.heap.size 26 #[.slice fA p.funcs.length fc,.slice mA p.eN.length mc,.slice cA p.aP.length cc,Aj p.size]:=by rw[hX];exact((qG _ _ _).alloc _).alloc _
 have c6:aH X (w.heap.size+1) 30 #[.slice oA z.aT.length oc,.slice uA z.aF.length uc,.slice tA z.aB.length tc,.slice eA z.aJ.length ec]:=by rw[hX];exact(qH _ _ _ (by simp)).alloc _
 have A3:aH X (w.heap.size+1+1) 39 #[.slice none 0 0,.slice none 0 0,.slice none 0 0,.slice none 0 0,.slice none 0 0,.slice none 0 0,.slice none 0 0,Aj 0,Aj 0,Aj 0]:=by rw[hX];exact qH _ _ _ (by simp)
 have mor:∀{B z1:Nat} {q:Pg} {a b c:Option Addr},B≤z1→gW X B q a b c→gW X z1 q a b c:=fun y3 h=>by
  obtain⟨⟨cs,h1,h2⟩,h3,h4⟩:=h;exact⟨⟨cs,h1.aY y3,fun A6 aA hc=>by obtain⟨A,c,x,y⟩:=h2 A6 aA hc;exact⟨A,c,x,y.aY y3⟩⟩,h3.aY y3,h4.aY y3⟩
 have z7:=Zbi X p z hp hz fA mA cA oA tA eA uA fc mc cc oc tc ec uc (mor J.size (z9.aQ (W':=X) fun q hq=>J.cell hq (fun x=>x))) (by
  have h:=z4.aQ (W':=X) fun q hq=>J.cell hq (fun x=>x)
  exact⟨h.aT.aY J.size,h.aF.aY J.size,h.aB.aY J.size,h.aJ.aY J.size⟩)
 have z3:=Aq z7;have x4:=Aq J;have v4:=Aq A3;have HX:=Aq hX;have HN:=Aq hN;have p0:=A2.cell 0;have p1:=A2.cell 1;have p2:=A2.cell 2;have p3:=A2.cell 3;have q0:=c6.cell 0;have q1:=c6.cell 1;have q2:=c6.cell 2;have q3:=c6.cell 3;simp only[Az,Ay,Ba]at p0 p1 p2 p3 q0 q1 q2 q3;clear hX z7 hp hz z9 z4 J A2 c6 A3 mor;go_enter Tryz.func55,Tryz.ntmps55;go_upto_region 1 with fail
 rw[←HX.o];go_wp2_with fail
 refine z3.o.mono ?_;rintro e w1⟨mb,O1,L1,rfl,z6,z2,x6⟩;have x8:Hid (me w X mb n.toNat (ah p z) (Aj 0) w1):=Aq ⟨0,_,By _,rfl,⟨O1,L1,z6,z2,x6⟩,rfl,Aw,v4.o.below x6 (by omega)⟩;clear z6 z2 x6 z3 p0 p1 p2 p3 q0 q1 q2 q3;generalize ah p z=sb at *;go_wp2_with fail
 go_loopw [8] (fun A6 wr=>me w X mb n.toNat sb A6 wr) (fun A6 _=>n.toNat-(intOf A6).toNat)
 case atStart=>exact x8.o
 case round =>
  clear x8;obtain⟨k,t,hk,rfl,⟨O,L,N,hO,hb⟩,G,v8,A3⟩:=hrel;have v6:=HN.o;by_cases v5:(k:Int)<n
  ·have HC:=Aq (Zet wr mb O L t N (by omega));have HM:=Aq N;have HO:=Aq hO;have HB:=Aq hb;have r:=Aq G;have c5:=Aq A3;have c4:¬ O (w.heap.size+1+1):=fun e=>by have:=hO _ e;omega
   have c7:=Aq c4;clear N hO hb G A3 c4;go_wp2_with fail
   refine HC.o.mono ?_;rintro e w2⟨rfl,e1,A5⟩;have A7:=A5.aG c5.o c7.o;have M:=nY.step HO.o HB.o e1 A5;have x0:=Wy (s:=t);rcases hs:Mc.step t with⟨t',b⟩
   rw[hs]at M x0;simp only at M x0;obtain⟨m,N⟩:∃m,n.toNat-k=m+1:=⟨n.toNat-k-1,by omega⟩;have c1:=r.o;rw[N]at c1;clear HC HM HO HB r c5 c7 e1 A5;cases b with
   |true =>
    rw[Wt hs]at c1;have v3:Hid (me w X mb n.toNat sb (Aj ((k:Int)+1)) w2):=Aq ⟨k+1,t',by omega,by simp,M,by rw[c1,show n.toNat-(k+1)=m by omega],by omega,A7⟩;clear M c1 A7 hs N x0;go_wp2_with fail
    go_roundw
    case rel=>exact v3.o
    case measure=>simp[intOf];omega
   |false =>
    rw[Sl hs]at c1;have w3:=Aq (nC c1);obtain⟨O2,L2,e1,x1,z5⟩:=M;have HC:=Aq (Zan w2 mb O2 L2 t' e1);have x3:=Aq A7;have x5:=Aq z5;clear e1 x1 z5 A7 c1 hs N x0;go_wp2_with fail
    refine HC.o.mono ?_;rintro e E⟨og,cu,to,en,cv,st,sk,rfl,i,F⟩;obtain⟨d,K,rfl,_⟩:=Bc i.og;obtain⟨S,f,rfl,_⟩:=Bc i.cu;obtain⟨j,Y,rfl,_⟩:=Bc i.to;obtain⟨P,U,rfl,_⟩:=Bc i.en;obtain⟨H,R,rfl,_⟩:=Bc i.cv;obtain⟨Q,Z,rfl,_⟩:=Bc i.st;obtain⟨l,V,rfl,_⟩:=Bc i.sk;have x9:=x5.o.size;have c2:=Aq (i.mono (show w.heap.size≤w2.heap.size by omega));have D:=Aq (x3.o.below F x3.o.lt);have A1:=Aq (((qO x4.o Aw).trans (x5.o.mono (by omega))).trans (F.mono (show w.heap.size≤w2.heap.size by omega)));clear i F HC x3 x5;have G:=Hk D.o c2.o (by omega) A1.o (.slice d t'.aT.length K) (.slice S t'.aF.length f) (.slice j t'.aB.length Y) (.slice P t'.aJ.length U) (.slice H t'.aP.length R) (.slice Q 32 Z) (.slice l t'.stack.length V) (Aj t'.steps) (Aj t'.aM) (Aj t'.br);have r:=Aq G;have b0:=D.o.cell;have b1:=D.o.frozen;have b2:=D.o.lt;clear G D c2 A1;go_wp2_with fail
    unfold dj at r;generalize ((((((((((E.setCell ⟨w.heap.size+1+1,0,none⟩ (.slice d t'.aT.length K)).setCell ⟨w.heap.size+1+1,1,none⟩ (.slice S t'.aF.length f)).setCell ⟨w.heap.size+1+1,2,none⟩ (.slice j t'.aB.length Y)).setCell ⟨w.heap.size+1+1,3,none⟩ (.slice P t'.aJ.length U)).setCell ⟨w.heap.size+1+1,4,none⟩ (.slice H t'.aP.length R)).setCell ⟨w.heap.size+1+1,5,none⟩ (.slice Q 32 Z)).setCell ⟨w.heap.size+1+1,6,none⟩ (.slice l t'.stack.length V)).setCell ⟨w.heap.size+1+1,7,none⟩ (Aj t'.steps)).setCell ⟨w.heap.size+1+1,8,none⟩ (Aj t'.aM)).setCell ⟨w.heap.size+1+1,9,none⟩ (Aj t'.br))=W9 at r ⊢;have e2:=r.o.2.2.lt;have C:=r.o.2.2.cell;simp only[oM,oV,oE]at C;have y0:=C 0;simp only[Az,Ay]at y0;have y1:=C 1;simp only[Az,Ay,Ba]at y1;have y2:=C 2;simp only[Az,Ay,Ba]at y2;have T:=C 3;simp only[Az,Ay,Ba]at T;have y4:=C 4;simp only[Az,Ay,Ba]at y4;have y5:=C 5;simp only[Az,Ay,Ba]at y5;have y6:=C 6;simp only[Az,Ay,Ba]at y6;have y7:=C 7;simp only[Az,Ay,Ba]at y7;have W:=C 8;simp only[Az,Ay,Ba]at W;have y9:=C 9;simp only[Az,Ay,Ba]at y9;clear C;refine bodyPost_ret (v:=.agg #[.slice d t'.aT.length K,.slice S t'.aF.length f,.slice j t'.aB.length Y,.slice P t'.aJ.length U,.slice H t'.aP.length R,.slice Q 32 Z,.slice l t'.stack.length V,Aj t'.steps,Aj t'.aM,Aj t'.br]) (by simp[results,Tryz.results55,go_sem,y0,y1,y2,T,y4,y5,y6,y7,W,y9]) rfl ?_;rw[w3.o];exact⟨_,_,_,_,_,_,_,rfl,r.o.1,r.o.2.1⟩
  ·have x7:n.toNat-k=0:=by omega
   rw[x7]at G;have z0:Mc.steps n.toNat sb=(t,true):=G;have HC:=Aq (Vp wr mb O L t N);have HO:=Aq hO;have HB:=Aq hb;have hm:=Aq z0;have c5:=Aq A3;have c4:¬ O (w.heap.size+1+1):=fun e=>by have:=hO _ e;omega
   have c7:=Aq c4;clear N hO hb G A3 c4 z0 x7;go_wp2_with fail
   refine HC.o.mono ?_;rintro e w2⟨⟨x,y,rfl,v0⟩,e1,A5⟩;have A7:=A5.aG c5.o c7.o;have M:=nY.same HO.o HB.o e1 A5;rcases A4:next t with⟨u,o⟩
   rw[A4]at M;simp only at M ⊢;obtain⟨O2,L2,z8,x1,x2⟩:=M;have y8:=Aq (Zan (w2.alloc (.cells #[Aj x,Aj y] 96)) mb O2 L2 u (z8.alloc _));have I:=Aq (A7.alloc (.cells #[Aj x,Aj y] 96));have c3:=Aq (x2.alloc (by have:=x2.size;omega) (.cells #[Aj x,Aj y] 96));clear z8 x1 x2 A7 e1 A5 v0 HC HO HB c5 c7;cases o with
   |none =>
    have w3:=Aq (Zfh hm.o A4);clear A4 hm;simp only[Option.isSome_none];go_wp2_with fail
    refine y8.o.mono ?_;rintro e E⟨og,cu,to,en,cv,st,sk,rfl,i,F⟩;obtain⟨d,K,rfl,_⟩:=Bc i.og;obtain⟨S,f,rfl,_⟩:=Bc i.cu;obtain⟨j,Y,rfl,_⟩:=Bc i.to;obtain⟨P,U,rfl,_⟩:=Bc i.en;obtain⟨H,R,rfl,_⟩:=Bc i.cv;obtain⟨Q,Z,rfl,_⟩:=Bc i.st;obtain⟨l,V,rfl,_⟩:=Bc i.sk;go_upto_region 11 with fail
    have x9:=c3.o.size;have v1:=F.size;have c2:=Aq ((i.mono (show w.heap.size≤(w2.alloc (.cells #[Aj x,Aj y] 96)).heap.size by omega)).cW ((qF _ E).alloc (.cells #[.slice d u.aT.length K,.slice S u.aF.length f,.slice j u.aB.length Y,.slice P u.aJ.length U,.slice H u.aP.length R,.slice Q 32 Z,.slice l u.stack.length V,Aj u.steps,Aj u.aM,Aj u.br] 39)));have D:=Aq ((I.o.below F I.o.lt).alloc (.cells #[.slice d u.aT.length K,.slice S u.aF.length f,.slice j u.aB.length Y,.slice P u.aJ.length U,.slice H u.aP.length R,.slice Q 32 Z,.slice l u.stack.length V,Aj u.steps,Aj u.aM,Aj u.br] 39));have A1:=Aq ((((qO x4.o Aw).trans (c3.o.mono (by omega))).trans (F.mono (show w.heap.size≤(w2.alloc (.cells #[Aj x,Aj y] 96)).heap.size by omega))).alloc (show w.heap.size≤E.heap.size by omega) (.cells #[.slice d u.aT.length K,.slice S u.aF.length f,.slice j u.aB.length Y,.slice P u.aJ.length U,.slice H u.aP.length R,.slice Q 32 Z,.slice l u.stack.length V,Aj u.steps,Aj u.aM,Aj u.br] 39));have g:=Aq (qG E 39 #[.slice d u.aT.length K,.slice S u.aF.length f,.slice j u.aB.length Y,.slice P u.aJ.length U,.slice H u.aP.length R,.slice Q 32 Z,.slice l u.stack.length V,Aj u.steps,Aj u.aM,Aj u.br]);have v2:E.heap.size≠w.heap.size+1+1:=by have:=(I.o.below F I.o.lt).lt;omega
    clear i F y8 I c3;generalize E.alloc (.cells #[.slice d u.aT.length K,.slice S u.aF.length f,.slice j u.aB.length Y,.slice P u.aJ.length U,.slice H u.aP.length R,.slice Q 32 Z,.slice l u.stack.length V,Aj u.steps,Aj u.aM,Aj u.br] 39)=W4 at *;generalize E.heap.size=rb at *;have g0:=g.o.cell 0;have g1:=g.o.cell 1;have g2:=g.o.cell 2;have g3:=g.o.cell 3;have g4:=g.o.cell 4;have g5:=g.o.cell 5;have g6:=g.o.cell 6;have g7:=g.o.cell 7;have g8:=g.o.cell 8;have g9:=g.o.cell 9;simp only[Az,Ay,Ba]at g0 g1 g2 g3 g4 g5 g6 g7 g8 g9;have G:=Hk D.o c2.o (by omega) A1.o (.slice d u.aT.length K) (.slice S u.aF.length f) (.slice j u.aB.length Y) (.slice P u.aJ.length U) (.slice H u.aP.length R) (.slice Q 32 Z) (.slice l u.stack.length V) (Aj u.steps) (Aj u.aM) (Aj u.br);have r:=Aq G;have b0:=D.o.cell;have b1:=D.o.frozen;have b2:=D.o.lt;clear G D c2 A1;go_wp2_with fail
    unfold dj at r;generalize ((((((((((W4.setCell ⟨w.heap.size+1+1,0,none⟩ (.slice d u.aT.length K)).setCell ⟨w.heap.size+1+1,1,none⟩ (.slice S u.aF.length f)).setCell ⟨w.heap.size+1+1,2,none⟩ (.slice j u.aB.length Y)).setCell ⟨w.heap.size+1+1,3,none⟩ (.slice P u.aJ.length U)).setCell ⟨w.heap.size+1+1,4,none⟩ (.slice H u.aP.length R)).setCell ⟨w.heap.size+1+1,5,none⟩ (.slice Q 32 Z)).setCell ⟨w.heap.size+1+1,6,none⟩ (.slice l u.stack.length V)).setCell ⟨w.heap.size+1+1,7,none⟩ (Aj u.steps)).setCell ⟨w.heap.size+1+1,8,none⟩ (Aj u.aM)).setCell ⟨w.heap.size+1+1,9,none⟩ (Aj u.br))=W9 at r ⊢;have e2:=r.o.2.2.lt;have C:=r.o.2.2.cell;simp only[oM,oV,oE]at C;have y0:=C 0;simp only[Az,Ay]at y0;have y1:=C 1;simp only[Az,Ay,Ba]at y1;have y2:=C 2;simp only[Az,Ay,Ba]at y2;have T:=C 3;simp only[Az,Ay,Ba]at T;have y4:=C 4;simp only[Az,Ay,Ba]at y4;have y5:=C 5;simp only[Az,Ay,Ba]at y5;have y6:=C 6;simp only[Az,Ay,Ba]at y6;have y7:=C 7;simp only[Az,Ay,Ba]at y7;have W:=C 8;simp only[Az,Ay,Ba]at W;have y9:=C 9;simp only[Az,Ay,Ba]at y9;clear C;refine bodyPost_ret (v:=.agg #[.slice d u.aT.length K,.slice S u.aF.length f,.slice j u.aB.length Y,.slice P u.aJ.length U,.slice H u.aP.length R,.slice Q 32 Z,.slice l u.stack.length V,Aj u.steps,Aj u.aM,Aj u.br]) (by simp[results,Tryz.results55,go_sem,y0,y1,y2,T,y4,y5,y6,y7,W,y9]) rfl ?_;rw[w3.o];exact⟨_,_,_,_,_,_,_,rfl,r.o.1,r.o.2.1⟩
   |some ins =>
    have w3:=Aq (Zff hm.o A4);clear A4 hm;simp only[Option.isSome_some];go_wp2_with fail
    refine y8.o.mono ?_;rintro e E⟨og,cu,to,en,cv,st,sk,rfl,i,F⟩;obtain⟨d,K,rfl,_⟩:=Bc i.og;obtain⟨S,f,rfl,_⟩:=Bc i.cu;obtain⟨j,Y,rfl,_⟩:=Bc i.to;obtain⟨P,U,rfl,_⟩:=Bc i.en;obtain⟨H,R,rfl,_⟩:=Bc i.cv;obtain⟨Q,Z,rfl,_⟩:=Bc i.st;obtain⟨l,V,rfl,_⟩:=Bc i.sk;go_upto_region 11 with fail
    have x9:=c3.o.size;have v1:=F.size;have c2:=Aq ((i.mono (show w.heap.size≤(w2.alloc (.cells #[Aj x,Aj y] 96)).heap.size by omega)).cW ((qF _ E).alloc (.cells #[.slice d u.aT.length K,.slice S u.aF.length f,.slice j u.aB.length Y,.slice P u.aJ.length U,.slice H u.aP.length R,.slice Q 32 Z,.slice l u.stack.length V,Aj u.steps,Aj u.aM,Aj 53] 39)));have D:=Aq ((I.o.below F I.o.lt).alloc (.cells #[.slice d u.aT.length K,.slice S u.aF.length f,.slice j u.aB.length Y,.slice P u.aJ.length U,.slice H u.aP.length R,.slice Q 32 Z,.slice l u.stack.length V,Aj u.steps,Aj u.aM,Aj 53] 39));have A1:=Aq ((((qO x4.o Aw).trans (c3.o.mono (by omega))).trans (F.mono (show w.heap.size≤(w2.alloc (.cells #[Aj x,Aj y] 96)).heap.size by omega))).alloc (show w.heap.size≤E.heap.size by omega) (.cells #[.slice d u.aT.length K,.slice S u.aF.length f,.slice j u.aB.length Y,.slice P u.aJ.length U,.slice H u.aP.length R,.slice Q 32 Z,.slice l u.stack.length V,Aj u.steps,Aj u.aM,Aj 53] 39));have g:=Aq (qG E 39 #[.slice d u.aT.length K,.slice S u.aF.length f,.slice j u.aB.length Y,.slice P u.aJ.length U,.slice H u.aP.length R,.slice Q 32 Z,.slice l u.stack.length V,Aj u.steps,Aj u.aM,Aj 53]);have v2:E.heap.size≠w.heap.size+1+1:=by have:=(I.o.below F I.o.lt).lt;omega
    clear i F y8 I c3;generalize E.alloc (.cells #[.slice d u.aT.length K,.slice S u.aF.length f,.slice j u.aB.length Y,.slice P u.aJ.length U,.slice H u.aP.length R,.slice Q 32 Z,.slice l u.stack.length V,Aj u.steps,Aj u.aM,Aj 53] 39)=W4 at *;generalize E.heap.size=rb at *;have g0:=g.o.cell 0;have g1:=g.o.cell 1;have g2:=g.o.cell 2;have g3:=g.o.cell 3;have g4:=g.o.cell 4;have g5:=g.o.cell 5;have g6:=g.o.cell 6;have g7:=g.o.cell 7;have g8:=g.o.cell 8;have g9:=g.o.cell 9;simp only[Az,Ay,Ba]at g0 g1 g2 g3 g4 g5 g6 g7 g8 g9;have G:=Hk D.o c2.o (by omega) A1.o (.slice d u.aT.length K) (.slice S u.aF.length f) (.slice j u.aB.length Y) (.slice P u.aJ.length U) (.slice H u.aP.length R) (.slice Q 32 Z) (.slice l u.stack.length V) (Aj u.steps) (Aj u.aM) (Aj 53);have r:=Aq G;have b0:=D.o.cell;have b1:=D.o.frozen;have b2:=D.o.lt;clear G D c2 A1;go_wp2_with fail
    unfold dj at r;generalize ((((((((((W4.setCell ⟨w.heap.size+1+1,0,none⟩ (.slice d u.aT.length K)).setCell ⟨w.heap.size+1+1,1,none⟩ (.slice S u.aF.length f)).setCell ⟨w.heap.size+1+1,2,none⟩ (.slice j u.aB.length Y)).setCell ⟨w.heap.size+1+1,3,none⟩ (.slice P u.aJ.length U)).setCell ⟨w.heap.size+1+1,4,none⟩ (.slice H u.aP.length R)).setCell ⟨w.heap.size+1+1,5,none⟩ (.slice Q 32 Z)).setCell ⟨w.heap.size+1+1,6,none⟩ (.slice l u.stack.length V)).setCell ⟨w.heap.size+1+1,7,none⟩ (Aj u.steps)).setCell ⟨w.heap.size+1+1,8,none⟩ (Aj u.aM)).setCell ⟨w.heap.size+1+1,9,none⟩ (Aj 53))=W9 at r ⊢;have e2:=r.o.2.2.lt;have C:=r.o.2.2.cell;simp only[oM,oV,oE]at C;have y0:=C 0;simp only[Az,Ay]at y0;have y1:=C 1;simp only[Az,Ay,Ba]at y1;have y2:=C 2;simp only[Az,Ay,Ba]at y2;have T:=C 3;simp only[Az,Ay,Ba]at T;have y4:=C 4;simp only[Az,Ay,Ba]at y4;have y5:=C 5;simp only[Az,Ay,Ba]at y5;have y6:=C 6;simp only[Az,Ay,Ba]at y6;have y7:=C 7;simp only[Az,Ay,Ba]at y7;have W:=C 8;simp only[Az,Ay,Ba]at W;have y9:=C 9;simp only[Az,Ay,Ba]at y9;clear C;refine bodyPost_ret (v:=.agg #[.slice d u.aT.length K,.slice S u.aF.length f,.slice j u.aB.length Y,.slice P u.aJ.length U,.slice H u.aP.length R,.slice Q 32 Z,.slice l u.stack.length V,Aj u.steps,Aj u.aM,Aj 53]) (by simp[results,Tryz.results55,go_sem,y0,y1,y2,T,y4,y5,y6,y7,W,y9]) rfl ?_;rw[w3.o]
    exact⟨_,_,_,_,_,_,_,rfl,⟨r.o.1.og,r.o.1.cu,r.o.1.to,r.o.1.en,r.o.1.cv,r.o.1.st,r.o.1.sk⟩,r.o.2.1⟩
end
end Go.Proofs.YtnhebmgibiomnaaGreat

import Derived.Test.YtnhebmgibiomnaaGreatPh12
set_option linter.unusedVariables false
set_option linter.unusedSimpArgs false
set_option maxRecDepth 100000
set_option maxHeartbeats 8000000
namespace Go.Proofs.YtnhebmgibiomnaaGreat
section
open Go.RowKit Mc
def PzV (mb zb B n:Nat)(eA:Option Addr)(es:List Int)(ec:Nat)(i:Nat)(v:Value)(W:World):Prop :=
 match i with
 |0=>v=.pointer (some ⟨mb,0,none⟩)
 |1=>v=Aj n
 |2=>W.ownsRow B 76 2 v n (bq (List.replicate n (0,0)))
 |3=>v=Aj n
 |4=>W.ownsRow B 76 2 v n (bq (List.replicate n (0,0)))
 |5=>v=Aj n
 |6=>W.ownsRow B 3 1 v n (ae (List.replicate n 0))
 |7=>v=.pointer (some ⟨zb,3,none⟩)
 |8=>v=.slice eA es.length ec
 |9=>W.ownsRow B 3 1 v es.length (ae es)
 |10=>True
 |11=>v=.pointer (some ⟨mb,0,none⟩)
 |12=>v=.pointer (some ⟨mb,2,none⟩)
 |_=>True
def PzD (i:Nat)(v:Value)(j:Nat)(u:Value):Prop :=
 match i with
 |2=>match j with|4=>ar v u|10=>False|_=>True
 |4=>match j with|2=>ar v u|10=>False|_=>True
 |6=>match j with|9=>ar v u|10=>False|_=>True
 |9=>match j with|6=>ar v u|10=>False|_=>True
 |10=>match j with
  |2=>∃b c d,v=.agg #[u,b,c,d]
  |4=>∃a c d,v=.agg #[a,u,c,d]
  |6=>∃a b d,v=.agg #[a,b,u,d]
  |9=>∃a b c,v=.agg #[a,b,c,u]
  |_=>True
 |_=>True
theorem PzV.cr {mb zb B n:Nat}{eA:Option Addr}{es:List Int}{ec:Nat}{i:Nat}{v:Value}{W W':World}(h:PzV mb zb B n eA es ec i v W)(x:bT W W'):PzV mb zb B n eA es ec i v W':=by
 match i with
 |0|1|3|5|7|8|10|11|12=>exact h
 |2|4|6|9=>exact Ca h x
 |i+13=>trivial
def NewZ (B n:Nat)(es:List Int)(W:World)(og cu to en:Value):Prop :=
 W.ownsRow B 76 2 og n (bq (List.replicate n (0,0)))∧W.ownsRow B 76 2 cu n (bq (List.replicate n (0,0)))∧W.ownsRow B 3 1 to n (ae (List.replicate n 0))∧W.ownsRow B 3 1 en es.length (ae es)∧ar cu og∧ar to en
def fO (W:World)(b o:Nat)(u x z y:Value):World:=(((W.setCell ⟨b,o,none⟩ u).setCell ⟨b,o+1,none⟩ x).setCell ⟨b,o+2,none⟩ z).setCell ⟨b,o+3,none⟩ y
theorem ag.zoned {w W:World}{mb:Nat}{O:Nat→Prop}{L:bd}{s:St}(h:ag w mb O L s)(e:bT w W) (Y:s.bH=[]) {n:Nat} {es:List Int} {og cu to en:Value} (Z:NewZ w.heap.size n es W og cu to en) (P:n≤1000000) (K:es.length≤1000000) :
  ∃L',ag (fO W mb 2 og cu to en) mb (ext O w W) L' { s with aT:=List.replicate n (0,0),aF:=List.replicate n (0,0),aB:=List.replicate n 0,aJ:=es }∧Fr O w (fO W mb 2 og cu to en):=by
 obtain⟨b,j,o,l,Q,X⟩:=Z;have z:=e.aG h.aG (fun x=>x);have H:aH (fO W mb 2 og cu to en) mb 212 _:=(((z.aZ 2 og).aZ 3 cu).aZ 4 to).aZ 5 en;have a:∀{t:TypeId} {size m:Nat} {v:Value} {xs:List Value},W.ownsRow w.heap.size t size v m xs→t≠212→dK (fO W mb 2 og cu to en) (ext O w W) t size v m xs:=by
  intro t size m v xs u q;refine⟨Ci (Ci (Ci (Ci u z q.symm 2 og) (z.aZ 2 og) q.symm 3 cu) ((z.aZ 2 og).aZ 3 cu) q.symm 4 to) (((z.aZ 2 og).aZ 3 cu).aZ 4 to) q.symm 5 en |> (Cj · (By _)),fun g f=>?_⟩;have:=u.lt g f;exact .inr this
 have d:∀{t:TypeId} {size m:Nat} {v:Value} {xs:List Value},W.ownsRow w.heap.size t size v m xs→∀g,v.ownBlock=some g→w.heap.size≤g:=fun u g f=>(u.lt g f).1
 have y:∀k,k≠mb→(fO W mb 2 og cu to en).heap[k]?=W.heap[k]?:=fun k y=>by
  unfold fO;rw[Bp _ _ _ _ y,Bp _ _ _ _ y,Bp _ _ _ _ y,Bp _ _ _ _ y]
 have R:(fO W mb 2 og cu to en).heap.size=W.heap.size:=by simp[fO,World.setCell]
 refine⟨_,h.kN (w':=fO W mb 2 og cu to en) (O':=ext O w W) H (h.c.lZ og cu to en (List.replicate n (0,0)) (List.replicate n (0,0)) (List.replicate n 0) es) (by rw[ot];exact a b (by decide)) (d b) (by rw[ot];exact a j (by decide)) (d j) (by rw[ot];exact a o (by decide)) (d o) (a l (by decide)) (d l) Q X
  (fun k V b _=>(y k b).trans (e.block k (h.eQ k V) (fun x=>x))) (fun _ h=>.inl h) (fun k y=>by rw[R];exact h.gu e.size k y) ?_,?_⟩
 ·have r:bI 0:=by unfold bI;omega
  exact h.ok.kN Y (fun p i=>by rw[oM i];exact⟨r,r⟩) (fun p i=>by rw[oM i];exact⟨r,r⟩) (fun t S=>by rw[oM S];omega) (by simp) (by simp) (by simpa using P) K
 ·have U:Fr O w W:=e.mono (fun _ _ x=>x.elim);unfold fO;exact(((U.setCell (p:=⟨mb,2,none⟩) (.inl h.ew) og).setCell (p:=⟨mb,3,none⟩) (.inl h.ew) cu).setCell (p:=⟨mb,4,none⟩) (.inl h.ew) to).setCell (p:=⟨mb,5,none⟩) (.inl h.ew) en
theorem Hk (n:Int)(w:World):Calls Tryz.prog 98 #[Aj n] w fun e w'=>e=.returned (Aj (bA n))∧w'=w:=(Iq n w).mono fun _ _ h=>⟨h.1,h.2.symm⟩
theorem ag.cuAt {w:World}{mb:Nat}{O:Nat→Prop}{L:bd}{s:St}(h:ag w mb O L s){g n c:Nat} (x:L.cu=.slice (some ⟨g,0,none⟩) n c) {i:Nat} {p:Int×Int} (hi:s.aF[i]?=some p) :
  g<w.heap.size∧w.cell? ⟨g,i*2,none⟩=some (Aj p.1)∧w.cell? ⟨g,i*2+1,none⟩=some (Aj p.2)∧w.frozen? ⟨g,i*2,none⟩=false∧w.frozen? ⟨g,i*2+1,none⟩=false∧w.cell? ⟨mb,3,none⟩=some (.slice (some ⟨g,0,none⟩) n c):=by
 have r:=(aS.1 hi).1;obtain⟨a,b,e,_,_,_,k,z,v⟩:=h.cu.aK (by omega);have y:=h.aG.cell 3;rw[h.c.c3,x]at y;rw[x]at e
 injection e with e u q
 clear u q
 injection e with e
 injection e with e u
 subst e;obtain⟨k0,k1⟩:=Fy hi;rw[oB 2]at k0 k1;exact⟨k,z _ _ k0,z _ _ k1,v _,v _,y⟩
theorem ag.ogAt {w:World}{mb:Nat}{O:Nat→Prop}{L:bd}{s:St}(h:ag w mb O L s){g n c:Nat} (x:L.og=.slice (some ⟨g,0,none⟩) n c) {i:Nat} {p:Int×Int} (hi:s.aT[i]?=some p) :
  g<w.heap.size∧w.cell? ⟨g,i*2,none⟩=some (Aj p.1)∧w.cell? ⟨g,i*2+1,none⟩=some (Aj p.2)∧w.frozen? ⟨g,i*2,none⟩=false∧w.frozen? ⟨g,i*2+1,none⟩=false∧w.cell? ⟨mb,2,none⟩=some (.slice (some ⟨g,0,none⟩) n c):=by
 have r:=(aS.1 hi).1;obtain⟨a,b,e,_,_,_,k,z,v⟩:=h.og.aK (by omega);have y:=h.aG.cell 2;rw[h.c.c2,x]at y;rw[x]at e
 injection e with e u q
 clear u q
 injection e with e
 injection e with e u
 subst e;obtain⟨k0,k1⟩:=Fy hi;rw[oB 2]at k0 k1;exact⟨k,z _ _ k0,z _ _ k1,v _,v _,y⟩
theorem ag.toAt {w:World}{mb:Nat}{O:Nat→Prop}{L:bd}{s:St}(h:ag w mb O L s){g n c:Nat} (x:L.to=.slice (some ⟨g,0,none⟩) n c) {i:Nat} {p:Int} (hi:s.aB[i]?=some p) :
  g<w.heap.size∧w.cell? ⟨g,i,none⟩=some (Aj p)∧w.frozen? ⟨g,i,none⟩=false∧w.cell? ⟨mb,4,none⟩=some (.slice (some ⟨g,0,none⟩) n c):=by
 have r:=(aS.1 hi).1;obtain⟨a,b,e,_,_,_,v,u,q⟩:=h.to.aK (by omega);have y:=h.aG.cell 4;rw[h.c.c4,x]at y;rw[x]at e
 injection e with e z k
 clear z k
 injection e with e
 injection e with e z
 subst e;exact⟨v,u _ _ (Ck hi),q _,y⟩
def et (s:St)(z:Zn)(k:Nat):St := { s with aT:=mk z.aF.length k (oF z) (0,0),aF:=mk z.aF.length k (cF z) (0,0),aB:=mk z.aF.length k (tF z) 0,aJ:=z.aJ }
structure Pi (w:World) (mb:Nat) (O O2:Nat→Prop) (L2:bd) (z:Zn) (B:Nat) (oA:Option Addr) (oc:Nat) (cA:Option Addr) (cc:Nat) (tA:Option Addr) (tc:Nat) (eA:Option Addr) (ec:Nat) (st:St) (wr:World):Prop where
 ma:ag wr mb O2 L2 st
 zb:aH wr w.heap.size 30 #[.slice oA z.aT.length oc,.slice cA z.aF.length cc,.slice tA z.aB.length tc,.slice eA z.aJ.length ec]
 za:cz wr B z oA cA tA eA
 fr:Fr O w wr
structure Os (w:World) (B:Nat) (O O2:Nat→Prop):Prop where
 up:∀k,O k→O2 k
 dn:∀k,O2 k→O k∨w.heap.size<k
 no:¬ O w.heap.size
 bo:∀k,k<B→¬ O k
 bw:B≤w.heap.size
theorem Pi.go {w:World}{mb:Nat}{O O2 r:Nat→Prop}{d a:bd}{z:Zn}{B:Nat}{oA cA tA eA:Option Addr}{oc cc tc ec:Nat}{st s:St}{wr u:World}(h:Pi w mb O O2 d z B oA oc cA cc tA tc eA ec st wr)(y:Os w B O O2)(x:Fr O2 wr u)(b:ag u mb r a s):Pi w mb O r a z B oA oc cA cc tA tc eA ec s u:=by
 have g:=h.fr.size;have f:=y.bw;have n0:¬ O2 w.heap.size:=fun e=>by rcases y.dn _ e with e|e;exact y.no e;omega
 have n1:∀k,k<B→¬ O2 k:=fun k v e=>by rcases y.dn _ e with e|e;exact y.bo k v e;omega
 refine⟨b,x.aG h.zb n0,h.za.aQ fun p c=>x.cell (by omega) (n1 _ c),?_⟩;exact⟨x.os.trans h.fr.os,x.tape.trans h.fr.tape,x.output.trans h.fr.output,Ex h.fr.size x.size,fun k v q=>(x.block k (by omega) (fun e=>by rcases y.dn _ e with e|e;exact q e;omega)).trans (h.fr.block k v q)⟩
theorem Pi.alloc {w:World}{mb:Nat}{O O2:Nat→Prop}{x:bd}{z:Zn}{B:Nat}{oA cA tA eA:Option Addr}{oc cc tc ec:Nat}{st:St}{wr:World}(h:Pi w mb O O2 x z B oA oc cA cc tA tc eA ec st wr)(y:Os w B O O2)(o:Obj):Pi w mb O O2 x z B oA oc cA cc tA tc eA ec st (wr.alloc o) :=
 h.go y ((qu _ _).alloc o) (h.ma.alloc o)
theorem Zbt:(Tryz.prog.info? 252).map (fun i=>(i.zero,i.size,i.bytes))=some (some (.agg #[Aj 0,Aj 0]),2,16):=by kernel_rfl
theorem ag.ms {z w1:World}{mb:Nat}{v:Nat→Prop}{b:bd}{st:St}(h:ag z mb v b st){q:Option Addr}{n p:Nat}(i:b.co=.slice q n p){v':Value}{la e:Int}(m : -1≤la)(H:la<e)(o:e<st.aF.length)(f:st.bH.length<1000000)
  (s:w1.ownsRow 0 252 2 v' (st.bH.length+1) (ir st.bH++[Aj (la+1),Aj e])) (a:z.grownBy w1 (Value.slice q n p).ownBlock) (k:v'.ownBlock=(Value.slice q n p).ownBlock∨v'.ownBlock=some z.heap.size) :
  ((∃u,w1.cell? ⟨mb,6,none⟩=some u)∧w1.frozen? ⟨mb,6,none⟩=false∧mb<w1.heap.size)∧(∃L',ag (w1.setCell ⟨mb,6,none⟩ v') mb (ext v z w1) L' { st with bH:=st.bH++[((la+1).toNat,e.toNat)] })∧Fr v z (w1.setCell ⟨mb,6,none⟩ v'):=by
 rw[←i]at a k;have j:dK w1 (ext v z w1) 252 2 v' (st.bH.length+1) (ir st.bH++[Aj (((la+1).toNat,e.toNat):Nat×Nat).1,Aj (((la+1).toNat,e.toNat):Nat×Nat).2]):=by
  refine⟨?_,fun g x=>?_⟩
  ·simp only;rw[pP (by omega),pP (by omega)];exact s
  ·rcases k with y|y
   ·exact .inl (h.co.2 g (y ▸ x))
   ·rw[y]at x;injection x with x;subst x;exact .inr ⟨Aw,(s.lt _ y).2⟩
 obtain⟨⟨cs,r,w⟩,d,l⟩:=h.mf (c:=((la+1).toNat,e.toNat)) (by simp only;omega) f j a (fun g x=>by
  rcases k with y|y
  ·exact .inl (y ▸ x)
  ·rw[y]at x;injection x with x;exact .inr (by omega))
 refine⟨⟨⟨cs[6]'(by omega),by rw[r.cell];exact qj (by omega)⟩,r.frozen 6,r.lt⟩,d,l⟩
def lV (w:World)(mb:Nat)(O:Nat→Prop)(s:St)(z:Zn)(B:Nat)(oA:Option Addr)(oc:Nat)(cA:Option Addr)(cc:Nat)(tA:Option Addr)(tc:Nat)(eA:Option Addr)(ec:Nat)(l i:Value)(wr:World):Prop :=
 ∃(j:Nat) (la:Int) (x:Nat→Prop) (y:bd) (cs:List (Nat×Nat)),j≤z.aJ.length∧i=Aj j∧l=Aj la∧-1≤la∧la≤z.aF.length∧Os w B O x∧Pi w mb O x y z B oA oc cA cc tA tc eA ec { et s z z.aF.length with bH:=cs } wr∧cs++Mc.eK z.aF.length la (z.aJ.drop j)=Mc.eK z.aF.length (-1) z.aJ∧cs.length≤j
theorem Xb (w:World)(mb:Nat)(O:Nat→Prop)(L:bd)(s:St)(h:ag w mb O L s) (hc:s.bH=[]) (z:Zn) (hz:eu z) (B:Nat) (m4:B≤w.heap.size) (g1:∀k,k<B→¬ O k) (oA cA tA eA:Option Addr) (oc cc tc ec:Nat) (i6:cz w B z oA cA tA eA) :
  Calls Tryz.prog 100 #[.pointer (some ⟨mb,0,none⟩),.agg #[.slice oA z.aT.length oc,.slice cA z.aF.length cc,.slice tA z.aB.length tc,.slice eA z.aJ.length ec]] w (aw w mb O { s with aT:=(List.range z.aF.length).map (oF z),aF:=z.aF.map k2,aB:=(List.range z.aF.length).map (tF z),aJ:=z.aJ,bH:=eK z.aF.length (-1) z.aJ }):=by
 have p6:=h.aG.lt;have HZ:=Aq hz;obtain⟨n1,n2,n3,n4⟩:=hz;have Q:=Aq (h.alloc (.cells #[.slice oA z.aT.length oc,.slice cA z.aF.length cc,.slice tA z.aB.length tc,.slice eA z.aJ.length ec] 30));have HB:=Aq (qv w 30 #[.slice oA z.aT.length oc,.slice cA z.aF.length cc,.slice tA z.aB.length tc,.slice eA z.aJ.length ec]);have i4:=Aq ((qu O w).alloc (.cells #[.slice oA z.aT.length oc,.slice cA z.aF.length cc,.slice tA z.aB.length tc,.slice eA z.aJ.length ec] 30));have i2:cz (w.alloc (.cells #[.slice oA z.aT.length oc,.slice cA z.aF.length cc,.slice tA z.aB.length tc,.slice eA z.aJ.length ec] 30)) B z oA cA tA eA:=i6.aQ fun p q=>Cb w _ p (by omega)
 have z9:=Aq i2;have g0:=Aq g1;have f2:=Aq hc;have y9:=Aq (Zfj z.aF.length n2);have b0:=Aq (Jv z.aF.length n2);have a7:=Aq (h.gY (pp w.heap.size));clear h i6 i2 g1 hc;go_enter Tryz.func100,Tryz.ntmps100;go_wp2_with fail
 have q7:(w.alloc (.cells #[.slice oA z.aT.length oc,.slice cA z.aF.length cc,.slice tA z.aB.length tc,.slice eA z.aJ.length ec] 30)).heap.size=w.heap.size+1:=by simp
 generalize w.alloc (.cells #[.slice oA z.aT.length oc,.slice cA z.aF.length cc,.slice tA z.aB.length tc,.slice eA z.aJ.length ec] 30)=X at *;refine Hw (PzV mb w.heap.size X.heap.size z.aF.length eA z.aJ ec) PzD (fun W=>bT X W) bT (by as_aux_lemma=>kernel_rfl) (by as_aux_lemma=>kernel_rfl) 13 rfl ?_ ?_ ?_ ?_
 ·intro i v W W' hv hr;exact hv.cr hr
 ·exact(qu _ _).drew
 ·intro j ev val W T n S m f3 e0 K;have y7:=Aq f3;have h4:=Aq e0;have _e0:ev (.tmp 0)=.pointer (some ⟨mb,0,none⟩):=m.du 0 (by kernel_rfl);have _e3:ev (.tmp 3)=.pointer (some ⟨w.heap.size,0,none⟩):=m.du 3 (by kernel_rfl);have _e4:ev (.tmp 4)=Aj z.aF.length:=m.du 4 (by kernel_rfl);have _ec:=m.const;have _ef:=m.func;have v8:=S.aG HB.o (fun x=>x);have z3:=v8.cell 3;simp only[Az,Ay,Bc]at z3;have m3:=v8.lt;have p9:=(Q.o.cr S).aG.lt;have g:=Aq S;have HE:=Aq z9.o.aJ;clear S f3 e0 v8
  match j,n with
  |0,_ =>
   refine⟨_,rfl,rfl,?_⟩;unfold Bl;go_simp;exact⟨rfl,g.o,qu _ _,fun j _=>trivial⟩
  |1,_ =>
   refine⟨_,rfl,rfl,?_⟩;unfold Bl;go_simp;exact⟨rfl,g.o,qu _ _,fun j _=>trivial⟩
  |3,_ =>
   refine⟨_,rfl,rfl,?_⟩;unfold Bl;go_simp;exact⟨rfl,g.o,qu _ _,fun j _=>trivial⟩
  |5,_ =>
   refine⟨_,rfl,rfl,?_⟩;unfold Bl;go_simp;exact⟨rfl,g.o,qu _ _,fun j _=>trivial⟩
  |2,_ =>
   have d1:=K 1 (by kernel_rfl);have x1:=m.bX 1 14 (by kernel_rfl) (by kernel_rfl);simp only[PzV]at d1;rw[d1]at x1;have am:=y9.o W;refine⟨_,rfl,rfl,?_⟩;unfold Bl;go_simp;refine⟨Fc (by rw[Ia,ot]) (by have:=g.o.size;omega) (by unfold maxLen;omega),g.o.alloc _,(qu _ _).alloc _,fun j n=>?_⟩;have I:=y7.o j n;have J:=h4.o j n
   match j with
   |4=>exact Mw (by simpa only[PzV]using I) rfl
   |10=>exact absurd (J.symm.trans (by kernel_rfl)) od
   |0|1|2|3|5|6|7|8|9|11|12=>trivial
   |j+13=>trivial
  |4,_ =>
   have d3:=K 3 (by kernel_rfl);have x3:=m.bX 3 16 (by kernel_rfl) (by kernel_rfl);simp only[PzV]at d3;rw[d3]at x3;have am:=y9.o W;refine⟨_,rfl,rfl,?_⟩;unfold Bl;go_simp;refine⟨Fc (by rw[Ia,ot]) (by have:=g.o.size;omega) (by unfold maxLen;omega),g.o.alloc _,(qu _ _).alloc _,fun j n=>?_⟩;have I:=y7.o j n;have J:=h4.o j n
   match j with
   |2=>exact Mw (by simpa only[PzV]using I) rfl
   |10=>exact absurd (J.symm.trans (by kernel_rfl)) od
   |0|1|3|4|5|6|7|8|9|11|12=>trivial
   |j+13=>trivial
  |6,_ =>
   have d5:=K 5 (by kernel_rfl);have x5:=m.bX 5 18 (by kernel_rfl) (by kernel_rfl);simp only[PzV]at d5;rw[d5]at x5;have am:=b0.o W;refine⟨_,rfl,rfl,?_⟩;unfold Bl;go_simp;refine⟨Fc (by rw[Dc,ot,ox]) (by have:=g.o.size;omega) (by unfold maxLen;omega),g.o.alloc _,(qu _ _).alloc _,fun j n=>?_⟩;have I:=y7.o j n;have J:=h4.o j n
   match j with
   |9=>exact Mw (by simpa only[PzV]using I) rfl
   |10=>exact absurd (J.symm.trans (by kernel_rfl)) od
   |0|1|2|3|4|5|6|7|8|11|12=>trivial
   |j+13=>trivial
  |7,_ =>
   refine⟨_,rfl,rfl,?_⟩;unfold Bl;go_simp;exact⟨rfl,g.o,qu _ _,fun j _=>trivial⟩
  |8,_ =>
   have d7:=K 7 (by kernel_rfl);have x7:=m.bX 7 20 (by kernel_rfl) (by kernel_rfl);simp only[PzV]at d7;rw[d7]at x7;refine⟨_,rfl,rfl,?_⟩;unfold Bl;go_simp;exact⟨rfl,g.o,qu _ _,fun j _=>trivial⟩
  |9,_ =>
   have d8:=K 8 (by kernel_rfl);have x8:=m.bX 8 21 (by kernel_rfl) (by kernel_rfl);simp only[PzV]at d8;rw[d8]at x8;have o9:=Aq (HE.o.aQ fun p q=>g.o.cell (by omega) (fun x=>x));refine⟨_,rfl,rfl,?_⟩;unfold Bl;go_simp;refine(Gq W eA _ ec _ _ o9.o (Ho _) (by omega)).mono ?_;rintro e w5⟨v5,rfl,b5,e1⟩;refine⟨_,rfl,Cj b5 (by have:=g.o.size;omega),g.o.trans e1,e1,fun j n=>?_⟩;have I:=y7.o j n;have J:=h4.o j n
   match j with
   |6=>exact Eg (by simpa only[PzV]using I) b5
   |10=>exact absurd (J.symm.trans (by kernel_rfl)) od
   |0|1|2|3|4|5|7|8|9|11|12=>trivial
   |j+13=>trivial
  |10,_ =>
   have d2:=K 2 (by kernel_rfl);have x2:=m.bX 2 15 (by kernel_rfl) (by kernel_rfl);simp only[PzV]at d2;have d4:=K 4 (by kernel_rfl);have x4:=m.bX 4 17 (by kernel_rfl) (by kernel_rfl);simp only[PzV]at d4;have d6:=K 6 (by kernel_rfl);have x6:=m.bX 6 19 (by kernel_rfl) (by kernel_rfl);simp only[PzV]at d6;have d9:=K 9 (by kernel_rfl);have x9:=m.bX 9 22 (by kernel_rfl) (by kernel_rfl);simp only[PzV]at d9;obtain⟨A1,c1,u7⟩:∃A c,val 2=.slice A _ c:=by obtain⟨A,c,e,_⟩:=Ba d2;exact⟨A,c,e⟩
   rw[u7]at x2;obtain⟨A2,c2,a3⟩:∃A c,val 4=.slice A _ c:=by obtain⟨A,c,e,_⟩:=Ba d4;exact⟨A,c,e⟩
   rw[a3]at x4;obtain⟨A3,c3,z7⟩:∃A c,val 6=.slice A _ c:=by obtain⟨A,c,e,_⟩:=Ba d6;exact⟨A,c,e⟩
   rw[z7]at x6;obtain⟨A4,c4,v0⟩:∃A c,val 9=.slice A _ c:=by obtain⟨A,c,e,_⟩:=Ba d9;exact⟨A,c,e⟩
   rw[v0]at x9;have H1:=Aq u7;have H2:=Aq a3;have H3:=Aq z7;have H4:=Aq v0;clear d2 d4 d6 d9 u7 a3 z7 v0;refine⟨_,rfl,rfl,?_⟩;unfold Bl;go_simp;refine⟨trivial,g.o,qu _ _,fun j n=>?_⟩
   match j with
   |2=>exact⟨_,_,_,by rw[H1.o]⟩
   |4=>exact⟨_,_,_,by rw[H2.o]⟩
   |6=>exact⟨_,_,_,by rw[H3.o]⟩
   |9=>exact⟨_,_,_,by rw[H4.o]⟩
   |0|1|3|5|7|8|10|11|12=>trivial
   |j+13=>trivial
  |11,_ =>
   have d0:=K 0 (by kernel_rfl);have x0:=m.bX 0 13 (by kernel_rfl) (by kernel_rfl);simp only[PzV]at d0;rw[d0]at x0;refine⟨_,rfl,rfl,?_⟩;unfold Bl;go_simp;exact⟨rfl,g.o,qu _ _,fun j _=>trivial⟩
  |12,_ =>
   have iq:=K 11 (by kernel_rfl);have l4:=m.bX 11 24 (by kernel_rfl) (by kernel_rfl);simp only[PzV]at iq;rw[iq]at l4;refine⟨_,rfl,rfl,?_⟩;unfold Bl;go_simp;exact⟨rfl,g.o,qu _ _,fun j _=>trivial⟩
  |i+13,hi=>exact absurd hi (by simp)
 ·intro val W S hV G;have v2:=hV 2 (by simp);have v4:=hV 4 (by simp);have v6:=hV 6 (by simp);have v9:=hV 9 (by simp);have l9:=hV 12 (by simp);simp only[PzV]at v2 v4 v6 v9 l9;have h8:ar (val 4) (val 2):=by rcases G 2 4 (by simp) (by simp) (by simp) with h|h;exact qK h;exact h
  have h7:ar (val 6) (val 9):=by rcases G 6 9 (by simp) (by simp) (by simp) with h|h;exact h;exact qK h
  have C:∃b c d,val 10=.agg #[val 2,b,c,d]:=by rcases G 10 2 (by simp) (by simp) (by simp) with h|h;exact h;exact h.elim
  have e4:∃a c d,val 10=.agg #[a,val 4,c,d]:=by rcases G 10 4 (by simp) (by simp) (by simp) with h|h;exact h;exact h.elim
  have e6:∃a b d,val 10=.agg #[a,b,val 6,d]:=by rcases G 10 6 (by simp) (by simp) (by simp) with h|h;exact h;exact h.elim
  have e9:∃a b c,val 10=.agg #[a,b,c,val 9]:=by rcases G 10 9 (by simp) (by simp) (by simp) with h|h;exact h;exact h.elim
  obtain⟨b2,c2,d2,C⟩:=C;obtain⟨a4,c4,d4,e4⟩:=e4;obtain⟨a6,b6,d6,e6⟩:=e6;obtain⟨a9,b9,c9,e9⟩:=e9;have f4:val 10=.agg #[val 2,val 4,val 6,val 9]:=by
   rw[C]at e4 e6 e9 ⊢;simp only[Value.agg.injEq,Array.mk.injEq,pq,and_true]at e4 e6 e9 ⊢;exact⟨trivial,e4.2.1,e6.2.2.1,e9.2.2.2⟩
  clear C e4 e6 e9;have j4:=Ba v2;obtain⟨A1,k1,a0,_⟩:=Ba v2;obtain⟨A2,k2,u8,_⟩:=Ba v4;obtain⟨A3,k3,a1,_⟩:=Ba v6;obtain⟨A4,k4,z6,_⟩:=Ba v9;rw[a0,u8,a1,z6]at f4;rw[a0]at v2 h8;rw[u8]at v4 h8;rw[a1]at v6 h7;rw[z6]at v9 h7;obtain⟨R,f8,h3⟩:=Q.o.zoned S f2.o ⟨v2,v4,v6,v9,h8,h7⟩ n2 n4;have i1:=Aq f8;have a8:=Aq (i4.o.trans h3);have q8:=Q.o.ew;have b4:aH (fO W mb 2 (.slice A1 z.aF.length k1) (.slice A2 z.aF.length k2) (.slice A3 z.aF.length k3) (.slice A4 z.aJ.length k4)) w.heap.size 30 #[.slice oA z.aT.length oc,.slice cA z.aF.length cc,.slice tA z.aB.length tc,.slice eA z.aJ.length ec]:=h3.aG HB.o a7.o;have b8:=Aq b4;have b1:cz (fO W mb 2 (.slice A1 z.aF.length k1) (.slice A2 z.aF.length k2) (.slice A3 z.aF.length k3) (.slice A4 z.aJ.length k4)) B z oA cA tA eA:=z9.o.aQ fun p q=>h3.cell (by omega) (g0.o _ q)
  have g8:=Aq b1;have U:=S.aG Q.o.aG (fun x=>x);have g2:∃u,W.cell? ⟨mb,2,none⟩=some u:=⟨_,by rw[U.cell];exact Q.o.c.c2⟩;have g3:∃u,W.cell? ⟨mb,3,none⟩=some u:=⟨_,by rw[U.cell];exact Q.o.c.c3⟩;have g4:∃u,W.cell? ⟨mb,4,none⟩=some u:=⟨_,by rw[U.cell];exact Q.o.c.c4⟩;have g5:∃u,W.cell? ⟨mb,5,none⟩=some u:=⟨_,by rw[U.cell];exact Q.o.c.c5⟩;obtain⟨u2,g2⟩:=g2;obtain⟨u3,g3⟩:=g3;obtain⟨u4,g4⟩:=g4;obtain⟨u5,g5⟩:=g5;have q2:=U.frozen 2;have q3:=U.frozen 3;have q4:=U.frozen 4;have q5:=U.frozen 5;have o6:=U.lt;have n0:=S.size;clear hV G S a0 u8 a1 z6 j4 v2 v4 v6 v9 h8 h7 f8 h3 b4 b1 U Q i4 HB z9 y9 b0;unfold wpOp;change (if _ then _ else _);rw[if_pos (by kernel_rfl)];refine .inl ?_;simp only[Mn,Fx,Az,Ay,Bc,pu];go_simp;have i5:∀k,ext O X W k→O k∨w.heap.size<k:=fun k f=>by rcases f with f|f;exact .inl f;exact .inr (by omega)
  have E:=Aq (Os.mk (w:=w) (B:=B) (O:=O) (O2:=ext O X W) (fun k h=>.inl h) i5 a7.o g0.o m4);have hd:Hid (Pi w mb O (ext O X W) R z B oA oc cA cc tA tc eA ec (et s z 0) (fO W mb 2 (.slice A1 z.aF.length k1) (.slice A2 z.aF.length k2) (.slice A3 z.aF.length k3) (.slice A4 z.aJ.length k4))):=Aq ⟨by
   have:=i1.o;unfold et;rw[Me,Me,Me];exact this,b8.o,g8.o,a8.o⟩
  unfold fO at hd;clear i1 a8 b8 g8 i5 g2 g3 g4 g5 q2 q3 q4 q5 o6 n0 f4;generalize ((((W.setCell ⟨mb,2,none⟩ (.slice A1 z.aF.length k1)).setCell ⟨mb,3,none⟩ (.slice A2 z.aF.length k2)).setCell ⟨mb,4,none⟩ (.slice A3 z.aF.length k3)).setCell ⟨mb,5,none⟩ (.slice A4 z.aJ.length k4))=W2 at hd ⊢;generalize ext O X W=O2 at *;generalize r3:X.heap.size=X1 at *;have z0:=hd.o.zb.cell;have z1:=hd.o.zb.lt;have y1:=z0 1;simp only[Az,Ay,Bc]at y1;clear z0;go_wp2_with fail
  clear y1 z1;go_loopw [29] (fun i wr=>∃k:Nat,k≤z.aF.length∧i=Aj k∧Pi w mb O O2 R z B oA oc cA cc tA tc eA ec (et s z k) wr) (fun i _=>z.aF.length-(intOf i).toNat)
  case atStart=>exact⟨0,By _,rfl,hd.o⟩
  case round =>
   clear hd;obtain⟨k,f,rfl,q⟩:=hrel;by_cases p7:(k:Int)<z.aF.length
   ·obtain⟨⟨x,y⟩,y6⟩:∃p,z.aF[k]?=some p:=⟨_,Bg (by omega)⟩;obtain⟨cb,co,n6,q1,z2⟩:=q.za.aF.aK (by omega);subst n6;have x0:=z2 _ _ (Fy y6).1;have x1:=z2 _ _ (Fy y6).2;rw[oB 2]at x0 x1;rw[←Lb]at x1;dsimp only at x0 x1;have t2:=q.fr.size;have l7:cb<wr.heap.size:=by omega
    have e8:(et s z k).aF.length=z.aF.length:=Es _ _ _ _;have b7:(et s z k).aT.length=z.aF.length:=Es _ _ _ _;have f9:(et s z k).aB.length=z.aF.length:=Es _ _ _ _;obtain⟨gc,kc,W5,n7,_,a2,r9,bM,HX⟩:=q.ma.cu.aK (by omega);obtain⟨go,ko,tt,o0,_,e2,r8,l1,j9⟩:=q.ma.og.aK (by omega);obtain⟨gt,kt,h5,k5,_,j0,s8,j1,o8⟩:=q.ma.to.aK (by omega);rw[e8]at W5 n7;rw[b7]at tt o0;rw[f9]at h5 k5;have HP:=Aq q;have p2:=Aq y6;have h2:=Aq W5;have h0:=Aq tt;have hD:=Aq h5;have s3:gc≠go:=fun e=>q.ma.bQ gc (by rw[W5];rfl) (by rw[tt,←e];rfl)
    have t1:gc≠mb:=q.ma.cu.bz q.ma.aG (by decide) (by rw[W5];rfl);have s2:go≠mb:=q.ma.og.bz q.ma.aG (by decide) (by rw[tt];rfl);have s9:gt≠mb:=q.ma.to.bz q.ma.aG (by decide) (by rw[h5];rfl);clear q z2 bM l1 j1 HX j9 o8 y6 W5 tt h5 e8 b7 f9;go_wp2_with fail
    have M:=Aq (HP.o.alloc E.o (.cells #[Aj x,Aj y] 76));have z4:=Aq (qv wr 76 #[Aj x,Aj y]);have o5:=Aq (HP.o.ma.gY (pp wr.heap.size));clear HP x0 x1 l7;generalize wr.alloc (.cells #[Aj x,Aj y] 76)=W3 at *;generalize wr.heap.size=pb at *;have p0:=z4.o.cell 0;have p1:=z4.o.cell 1;simp only[Az,Ay,Bc]at p0 p1;have c3:=M.o.ma.aG.cell 3;rw[M.o.ma.c.c3,h2.o]at c3;obtain⟨p5,p8,D,_,_,_,j7,bM,HX⟩:=M.o.ma.cu.aK (by unfold et;rw[Es];omega);rw[h2.o]at D
    injection D with D C e3
    clear C e3
    injection D with D
    injection D with D C
    clear C;subst D;have y8:(et s z k).aF[k]?=some (0,0):=by unfold et;rw[Ja (by omega),if_neg (by omega)]
    have r0:=bM _ _ (Fy y8).1;have r1:=bM _ _ (Fy y8).2;rw[oB 2]at r0 r1;dsimp only at r0 r1;have f0:=HX (k*2);have f1:=HX (k*2+1);have l0:=M.o.ma.aG.lt;have q0:pb≠gc:=fun e=>o5.o (e ▸ a2)
    clear bM HX y8;go_still_tail 14,(by kernel_rfl)
    still_call (Hk x _)
    repeat still_step
    still_call (Hk y _)
    repeat still_step
    refine wpStill_nil ?_;change wpList _ _ _ _ _ W3.drew;go_wp2_with fail
    have hj:=Aq (M.o.go E.o (((qu O2 W3).setCell (p:=⟨gc,k*2,none⟩) (.inl a2) (Aj (bA x))).setCell (p:=⟨gc,k*2+1,none⟩) (.inl a2) (Aj (bA y))).drew (M.o.ma.layCu h2.o (i:=k) (by simp only[et];rw[Es];omega) (Fg x) (Fg y)).drew);have v7:Hid (cF z k=(bA x,bA y)):=Aq (by unfold cF;rw[Da p2.o];rfl);clear M z4 p0 p1 c3 r0 r1 f0 f1 l0 j7;generalize (((W3.setCell ⟨gc,k*2,none⟩ (Aj (bA x))).setCell ⟨gc,k*2+1,none⟩ (Aj (bA y))).drew)=W4 at *;obtain⟨j8,r4,s4,_,_,c4⟩:=hj.o.ma.cuAt h2.o (i:=k) (p:=(bA x,bA y)) (by simp only[et];rw[pQ (by rw[Es];omega)]);obtain⟨j6,r5,s5,f5,f6,c5⟩:=hj.o.ma.ogAt h0.o (i:=k) (p:=(0,0)) (by simp only[et];rw[Ja (by omega),if_neg (by omega)]);dsimp only at r4 s4 r5 s5;have j3:=hj.o.ma.aG.lt;go_region;have H:=Aq (hj.o.go E.o (((qu O2 W4).setCell (p:=⟨go,k*2,none⟩) (.inl e2) (Aj (bA x))).setCell (p:=⟨go,k*2+1,none⟩) (.inl e2) (Aj (bA y))).drew (hj.o.ma.mL h0.o (i:=k) (by simp only[et];rw[Es];omega) (Fg x) (Fg y)).drew);clear hj r4 s4 c4 r5 s5 f5 f6 c5 j8 j6 j3;generalize (((W4.setCell ⟨go,k*2,none⟩ (Aj (bA x))).setCell ⟨go,k*2+1,none⟩ (Aj (bA y))).drew)=P at *;have y0:=H.o.zb.cell 0;simp only[Az,Ay]at y0;have l2:=H.o.zb.lt;by_cases q9:(k:Int)<z.aT.length
    ·obtain⟨⟨x',y'⟩,h1⟩:∃p,z.aT[k]?=some p:=⟨_,Bg (by omega)⟩;obtain⟨ob,oo,k8,bU,u9⟩:=H.o.za.aT.aK (by omega);subst k8;have x4:=u9 _ _ (Fy h1).1;have x5:=u9 _ _ (Fy h1).2;rw[oB 2]at x4 x5;rw[←Lb]at x5;dsimp only at x4 x5;have m9:ob<P.heap.size:=by have:=H.o.fr.size;omega
     obtain⟨p3,r6,s6,f6,g6,c6⟩:=H.o.ma.ogAt h0.o (i:=k) (p:=(bA x,bA y)) (by simp only[et];rw[pQ (by rw[Es];omega)]);dsimp only at r6 s6;have m0:=H.o.ma.aG.lt;have i9:=Aq (H.o.go E.o (((qu O2 P).setCell (p:=⟨go,k*2,none⟩) (.inl e2) (Aj (bA x'))).setCell (p:=⟨go,k*2+1,none⟩) (.inl e2) (Aj (bA y'))).drew (H.o.ma.mL h0.o (i:=k) (by simp only[et,Dd];rw[Es];omega) (Fg x') (Fg y')).drew);have y4:Hid (oF z k=(bA x',bA y')):=Aq (by unfold oF;rw[h1];rfl);clear u9 h1 H;go_wp2_with fail
     go_still_tail 22,(by kernel_rfl)
     still_call (Hk x' _)
     repeat still_step
     still_call (Hk y' _)
     repeat still_step
     refine wpStill_nil ?_;change wpList _ _ _ _ _ P.drew;go_upto_region 10 with fail
     clear y0 l2 x4 x5 m9 p3 r6 s6 f6 g6 c6 m0;generalize (((P.setCell ⟨go,k*2,none⟩ (Aj (bA x'))).setCell ⟨go,k*2+1,none⟩ (Aj (bA y'))).drew)=W6 at *;have r:Hid (Pi w mb O O2 R z B (some ⟨ob,oo,none⟩) oc (some ⟨cb,co,none⟩) cc tA tc eA ec { et s z k with aT:=mk z.aF.length (k+1) (oF z) (0,0),aF:=mk z.aF.length (k+1) (cF z) (0,0) } W6):=Aq (by
      have:=i9.o;simp only[et]at this ⊢;rw[List.set_set,←y4.o,←v7.o,Kr (by omega),Kr (by omega)]at this;exact this)
     clear i9;have y2:=r.o.zb.cell 2;simp only[Az,Ay,Bc]at y2;have n8:=r.o.zb.lt;by_cases k0:(k:Int)<z.aB.length
     ·obtain⟨Y,hp⟩:∃t,z.aB[k]?=some t:=⟨_,Bg (by omega)⟩;obtain⟨tb,v1,z8,p4,hG⟩:=r.o.za.aB.aK (by omega);subst z8;have x3:=hG _ _ (Ck hp);have o3:tb<W6.heap.size:=by have:=r.o.fr.size;omega
      obtain⟨k7,r7,f7,c7⟩:=r.o.ma.toAt hD.o (i:=k) (p:=0) (by simp only[et];rw[Ja (by omega),if_neg (by omega)]);have k9:=r.o.ma.aG.lt;have L2:=Aq (r.o.go E.o (((qu O2 W6).setCell (p:=⟨gt,k,none⟩) (.inl j0) (Aj (Y % 4))).drew) (r.o.ma.kO hD.o (i:=k) (by simp only[et];rw[Es];omega) (t:=Y % 4) (by omega)).drew);have V:Hid (tF z k=Y % 4):=Aq (by unfold tF;rw[Da hp]);have N:Hid (Pi w mb O O2 R z B (some ⟨ob,oo,none⟩) oc (some ⟨cb,co,none⟩) cc (some ⟨tb,v1,none⟩) tc eA ec (et s z (k+1)) ((W6.setCell ⟨gt,k,none⟩ (Aj (Y % 4))).drew)):=Aq (by
       have:=L2.o;simp only[et]at this ⊢;rw[←V.o,Kr (by omega)]at this;rw[←V.o];exact this)
      have o2:=Ro Y;clear hG hp L2 r;go_wp2_with fail
      go_region;go_wp2_with fail
      go_roundw
      case rel=>exact⟨k+1,by omega,by go_num,N.o⟩
      case measure=>simp[intOf];omega
     ·have V:Hid (mk z.aF.length k (tF z) 0=mk z.aF.length (k+1) (tF z) 0):=Aq (Zbc fun _=>by unfold tF;rw[Bn,Je (by omega)];rfl);have N:Hid (Pi w mb O O2 R z B (some ⟨ob,oo,none⟩) oc (some ⟨cb,co,none⟩) cc tA tc eA ec (et s z (k+1)) W6):=Aq (by
       have:=r.o;simp only[et]at this ⊢;rw[V.o]at this;exact this)
      clear r;go_wp2_with fail
      go_roundw
      case rel=>exact⟨k+1,by omega,by go_num,N.o⟩
      case measure=>simp[intOf];omega
    ·have y4:Hid (oF z k=(bA x,bA y)):=Aq (by unfold oF;rw[Je (by omega),Option.getD_none];exact v7.o);have r:Hid (Pi w mb O O2 R z B oA oc (some ⟨cb,co,none⟩) cc tA tc eA ec { et s z k with aT:=mk z.aF.length (k+1) (oF z) (0,0),aF:=mk z.aF.length (k+1) (cF z) (0,0) } P):=Aq (by
      have:=H.o;simp only[et]at this ⊢;rw[←y4.o,Kr (by omega),y4.o,←v7.o,Kr (by omega)]at this;exact this)
     clear H;have y2:=r.o.zb.cell 2;simp only[Az,Ay,Bc]at y2;have n8:=r.o.zb.lt;by_cases k0:(k:Int)<z.aB.length
     ·obtain⟨Y,hp⟩:∃t,z.aB[k]?=some t:=⟨_,Bg (by omega)⟩;obtain⟨tb,v1,z8,p4,hG⟩:=r.o.za.aB.aK (by omega);subst z8;have x3:=hG _ _ (Ck hp);have o3:tb<P.heap.size:=by have:=r.o.fr.size;omega
      obtain⟨k7,r7,f7,c7⟩:=r.o.ma.toAt hD.o (i:=k) (p:=0) (by simp only[et];rw[Ja (by omega),if_neg (by omega)]);have k9:=r.o.ma.aG.lt;have L2:=Aq (r.o.go E.o (((qu O2 P).setCell (p:=⟨gt,k,none⟩) (.inl j0) (Aj (Y % 4))).drew) (r.o.ma.kO hD.o (i:=k) (by simp only[et];rw[Es];omega) (t:=Y % 4) (by omega)).drew);have V:Hid (tF z k=Y % 4):=Aq (by unfold tF;rw[Da hp]);have N:Hid (Pi w mb O O2 R z B oA oc (some ⟨cb,co,none⟩) cc (some ⟨tb,v1,none⟩) tc eA ec (et s z (k+1)) ((P.setCell ⟨gt,k,none⟩ (Aj (Y % 4))).drew)):=Aq (by
       have:=L2.o;simp only[et]at this ⊢;rw[←V.o,Kr (by omega)]at this;rw[←V.o];exact this)
      have o2:=Ro Y;clear hG hp L2 r;go_wp2_with fail
      go_region;go_wp2_with fail
      go_roundw
      case rel=>exact⟨k+1,by omega,by go_num,N.o⟩
      case measure=>simp[intOf];omega
     ·have V:Hid (mk z.aF.length k (tF z) 0=mk z.aF.length (k+1) (tF z) 0):=Aq (Zbc fun _=>by unfold tF;rw[Bn,Je (by omega)];rfl);have N:Hid (Pi w mb O O2 R z B oA oc (some ⟨cb,co,none⟩) cc tA tc eA ec (et s z (k+1)) P):=Aq (by
       have:=r.o;simp only[et]at this ⊢;rw[V.o]at this;exact this)
      clear r;go_wp2_with fail
      go_roundw
      case rel=>exact⟨k+1,by omega,by go_num,N.o⟩
      case measure=>simp[intOf];omega
   ·have m1:k=z.aF.length:=by omega
    subst m1;have y3:=q.zb.cell 3;simp only[Az,Ay,Bc]at y3;have o1:=q.zb.lt;have c8:(et s z z.aF.length).bH=[]:=f2.o;have i3:Hid (lV w mb O s z B oA oc cA cc tA tc eA ec (Aj (-1)) (Aj 0) wr):=Aq ⟨0,-1,O2,R,[],By _,rfl,rfl,by omega,by omega,E.o,by
     have:et s z z.aF.length = { et s z z.aF.length with bH:=[] } := by rw[←c8]
     rw[←this];exact q,by simp,Aw⟩
    clear q c8 E;go_wp2_with fail
    clear y3 o1;go_loopw [7,112] (fun la i wr=>lV w mb O s z B oA oc cA cc tA tc eA ec la i wr) (fun _ i _=>z.aJ.length-(intOf i).toNat)
    case atStart=>exact i3.o
    case round =>
     clear i3;obtain⟨j,la,O3,L3,cs,n,rfl,rfl,i8,m6,F,q,Z,r2⟩:=hrel;by_cases s0:(j:Int)<z.aJ.length
     ·obtain⟨e,he⟩:∃e,z.aJ[j]?=some e:=⟨_,Bg (by omega)⟩;obtain⟨eb,eo,m7,s7,u1⟩:=q.za.aJ.aK (by omega);subst m7;have x6:=u1 _ _ (Ck he);have t0:eb<wr.heap.size:=by have:=q.fr.size;omega
      have v3:z.aJ.drop j=e::z.aJ.drop (j+1):=by rw[pD (by omega)];congr 1;have:=Bg (l:=z.aJ) (i:=j) (by omega);rw[this]at he;exact oK he
      rw[v3,Mc.eK]at Z;by_cases a5:la<e∧e<(z.aF.length:Int)
      ·obtain⟨y5,z5⟩:=a5;rw[if_pos ⟨y5,z5⟩]at Z;obtain⟨Ac,kc,h9,_,_⟩:=q.ma.co.form;have c6:=q.ma.aG.cell 6;rw[q.ma.c.c6,h9]at c6;have q6:=q.ma.aG.lt;have e7:=Aq (q.ma.alloc (.cells #[Aj (la+1),Aj e] 252));have g7:=Aq (q.alloc F (.cells #[Aj (la+1),Aj e] 252));have l5:=Aq h9;have hk:=Aq F;have l3:=Aq Z;have b3:(wr.alloc (.cells #[Aj (la+1),Aj e] 252)).ownsRow 0 252 2 (.slice Ac cs.length kc) cs.length (ir cs):=by
        have:=e7.o.co.1;rw[h9]at this;exact this
       have m5:=Aq b3;have o4:=Aq (qB (cs:=[Aj (la+1),Aj e]) (qv wr 252 #[Aj (la+1),Aj e]) 2 1 rfl);have s1:IntKind.i64.wrap (la+1)=la+1:=by rw[Do _ (by omega)]
       obtain⟨i0,l8,j2,j5,n5⟩:=Eu Zbt;clear q u1 he v3 h9 b3 F Z;go_wp2_with (at_builtin;refine Cm _ rfl (.tmp 128) (.tmp 133) _ rfl 0 252 i0 _ 2 16 Tryz.underlying209 l8 j2 j5 n5 rfl (show 0<2 by decide) (.slice Ac cs.length kc) cs.length (ir cs) rfl m5.o _ _ 1 1 [Aj (la+1),Aj e] rfl o4.o (by simp[Value.oneCell']) (by unfold maxLen;omega) (by omega) (By _) ?_;intro v' w1 u0 c0 e5;obtain⟨⟨⟨u6,k6⟩,f6,l6⟩,⟨L4,g9⟩,i7⟩:=e7.o.ms l5.o (la:=la) (e:=e) i8 y5 (by simp only[et];rw[Es];exact z5) (by simp only;omega) u0 c0 e5;have m8:=Aq g9;have n9:=Aq i7;obtain⟨Av,cv,m2,_,_⟩:=Ba u0;clear g9 i7 u0 c0 e5;subst m2)
       have h6:Hid (lV w mb O s z B oA oc cA cc tA tc (some ⟨eb,eo,none⟩) ec (Aj e) (Aj ((j:Int)+1)) (w1.setCell ⟨mb,6,none⟩ (.slice Av (cs.length+1) cv))):=Aq (by
        have m3:=g7.o.zb.lt;refine⟨j+1,e,_,L4,cs++[((la+1).toNat,e.toNat)],by omega,by simp,rfl,by omega,by omega,⟨fun k f=>.inl (hk.o.up k f),fun k f=>?_,hk.o.no,hk.o.bo,hk.o.bw⟩,g7.o.go hk.o n9.o m8.o,by rw[nz];exact l3.o,by simp;omega⟩;rcases f with f|f
        ·exact hk.o.dn k f
        ·exact .inr (by omega))
       refine⟨h6.o,by simp[intOf];omega⟩
      ·rw[if_neg a5]at Z;have h6:Hid (lV w mb O s z B oA oc cA cc tA tc (some ⟨eb,eo,none⟩) ec (Aj la) (Aj ((j:Int)+1)) wr):=Aq ⟨j+1,la,O3,L3,cs,by omega,by simp,rfl,i8,m6,F,q,Z,by omega⟩;clear q u1 he v3 F Z;by_cases y5:la<e
       ·have z5:¬ e<(z.aF.length:Int):=fun h=>a5 ⟨y5,h⟩
        go_wp2_with fail
        refine⟨h6.o,by simp[intOf];omega⟩
       ·go_wp2_with fail
        refine⟨h6.o,by simp[intOf];omega⟩
     ·have o7:j=z.aJ.length:=by omega
      subst o7;have HE:Hid (aw w mb O { s with aT:=(List.range z.aF.length).map (oF z),aF:=z.aF.map Mc.k2,aB:=(List.range z.aF.length).map (tF z),aJ:=z.aJ,bH:=eK z.aF.length (-1) z.aJ } (.returned (.tuple #[])) wr):=Aq (by
       refine⟨rfl,⟨L3,?_⟩,q.fr⟩;have hm:=q.ma.mono (O':=ext O w wr) (fun k f=>by
        rcases F.dn k f with h|h
        ·exact .inl h
        ·exact .inr ⟨by omega,q.ma.eQ k f⟩) (fun k f=>by
        rcases f with f|f
        ·exact q.ma.eQ k (F.up k f)
        ·exact f.2)
       simp only[et,Ta,Zey]at hm;rw[List.drop_length,Mc.eK,oC]at Z;rw[Z]at hm;exact hm)
      clear q F Z;go_wp2;go_end0;exact HE.o
def Rw (B:Nat)(W:World)(k:Nat):Prop:=B≤k∧k<W.heap.size
def dw (B:Nat)(W:World)(v:Value) (y:List (Int×Int)):Prop :=
 ∃x aA,v=.slice (some ⟨x,0,none⟩) 1 1∧aH W x 205 #[aA,Aj 0,Aj 0]∧B≤x∧W.ownsRow B 96 2 aA y.length (bq y)
theorem dw.cr {B:Nat}{W W':World}{v:Value} {y:List (Int×Int)} (h:dw B W v y) (z:bT W W'):dw B W' v y:=by
 obtain⟨u,aA,e,q,p,k⟩:=h;exact⟨u,aA,e,z.aG q (fun x=>x),p,Ca k z⟩
theorem It {B y:Nat}{W W':World} (h:eE W (Rw B W) y) (z:bT W W'):eE W' (Rw B W') y:=by
 have q:=z.size;have p:=h.1;refine h.aQ (z.block y p.2 (fun x=>x)) (fun g t cs v _ _=>z.block g v.2 (fun x=>x)) (fun k u=>⟨u.1,by have:=u.2;omega⟩)
theorem DI.cr {w0 W:World}{n:Nat}(h:DI w0 n W):bT w0 W:=by
 obtain⟨_,_,_,x⟩:=h;exact qC x (fun _ y _=>y)
theorem DI.deeds {w0 W:World}(h:DI w0 39 W){B:Nat}(z:B≤w0.heap.size):eE W (Rw B W) w0.heap.size:=by
 have u:=h.lt;obtain⟨bs,v,x,p⟩:=h;exact⟨⟨z,u⟩,bs,39,v,fun i a b=>(x i a b).aQ rfl (fun _ _ _ h=>h) (fun k y=>⟨by omega,y.2⟩)⟩
theorem Xt:(Tryz.prog.info? 24).map (fun i=>(i.zero,i.size,i.bytes))=some (some (.slice none 0 0),1,24):=by kernel_rfl
theorem Zbf (n:Nat):madeCells #[Value.slice none 0 0] n=(List.replicate n (Value.slice none 0 0)).toArray:=by
 unfold madeCells;apply Array.toList_inj.1;simp only[py,pB];rw[qg];exact⟨by simp,by intro b x;simp at x;obtain⟨a,y,rfl⟩:=x;rw[show a % 1=0 by omega];rfl⟩
theorem Xg (n:Nat)(u:n≤1000000)(w:World):(Instr.makeSlice 23 (Aj (n:Int)) (Aj (n:Int))).run Tryz.prog w=.ok (.slice (some ⟨w.heap.size,0,none⟩) n n) (w.alloc (.cells (List.replicate n (Value.slice none 0 0)).toArray 24)):=by
 obtain⟨i,hi,x,z,y⟩:=Eu Xt;have:=Ju (P:=Tryz.prog) 23 24 i _ Tryz.underlying23 hi x n (by rw[y];omega) (by omega) w;rw[z,ox,show (Value.slice none 0 0).cells = #[.slice none 0 0] from rfl,Zbf]at this;exact this
def NwV (u B:Nat)(fA:Option Addr)(fn fc:Nat)(mA:Option Addr) (z:List (Int×Int)) (mc:Nat) (cA:Option Addr) (x cc:Nat) (k:Int) (i:Nat) (v:Value) (W:World):Prop :=
 match i with
 |0=>v=.pointer (some ⟨u,0,none⟩)
 |1=>v=.slice fA fn fc
 |2=>v=Aj fn
 |3=>W.ownsRow B 24 1 v fn (List.replicate fn (.slice none 0 0))
 |4=>v=.pointer (some ⟨u,1,none⟩)
 |5=>v=.slice mA z.length mc
 |6=>W.ownsRow B 96 2 v z.length (bq z)
 |7=>∃aA,v=.agg #[aA,Aj 0,Aj 0]∧W.ownsRow B 96 2 aA z.length (bq z)
 |8=>dw B W v z
 |9=>v=.pointer (some ⟨u,2,none⟩)
 |10=>v=.slice cA x cc
 |11=>v=Aj x
 |12=>W.ownsRow B 3 1 v x (ae (List.replicate x 0))
 |13=>v=.pointer (some ⟨u,3,none⟩)
 |14=>v=Aj k
 |15=>v=Aj (bA k)
 |16=>∃y,v=.map (some y)∧eE W (Rw B W) y
 |17=>∃fu fr cv y,v=.agg #[fu,fr,.slice none 0 0,.slice none 0 0,.slice none 0 0,.slice none 0 0,.slice none 0 0,cv,Aj 0,Aj 0,Aj 0,Aj 0,Aj 0,Aj 0,Aj 0,Aj 0,Aj 0,Aj 0,Aj 0,Aj 0,Aj 0,Aj 0,Aj 0,Aj 0,Aj 0,Aj 0,Aj 0,Aj 0,Aj 0,Aj 0,Aj 0,Aj 0,Aj 0,Aj 0,Aj 0,Aj 0,Aj 0,Aj 0,Aj 0,Aj 0,.slice none 0 0,Aj (bA k),Aj 0,Aj 0,Aj 1,Aj 0,Aj 0,.bool false,Aj 0,.map (some y)]∧W.ownsRow B 24 1 fu fn (List.replicate fn (.slice none 0 0))∧dw B W fr z∧W.ownsRow B 3 1 cv x (ae (List.replicate x 0))∧eE W (Rw B W) y
 |18=>∃mb fu fr cv y,v=.pointer (some ⟨mb,0,none⟩)∧B≤mb∧aH W mb 212 #[fu,fr,.slice none 0 0,.slice none 0 0,.slice none 0 0,.slice none 0 0,.slice none 0 0,cv,Aj 0,Aj 0,Aj 0,Aj 0,Aj 0,Aj 0,Aj 0,Aj 0,Aj 0,Aj 0,Aj 0,Aj 0,Aj 0,Aj 0,Aj 0,Aj 0,Aj 0,Aj 0,Aj 0,Aj 0,Aj 0,Aj 0,Aj 0,Aj 0,Aj 0,Aj 0,Aj 0,Aj 0,Aj 0,Aj 0,Aj 0,Aj 0,.slice none 0 0,Aj (bA k),Aj 0,Aj 0,Aj 1,Aj 0,Aj 0,.bool false,Aj 0,.map (some y)]∧W.ownsRow B 24 1 fu fn (List.replicate fn (.slice none 0 0))∧dw B W fr z∧W.ownsRow B 3 1 cv x (ae (List.replicate x 0))∧eE W (Rw B W) y
 |_=>True
theorem NwV.cr {s B:Nat}{fA:Option Addr}{fn fc:Nat}{mA:Option Addr} {a:List (Int×Int)} {mc:Nat} {cA:Option Addr} {r cc:Nat} {b:Int} {i:Nat} {v:Value} {W W':World} (h:NwV s B fA fn fc mA a mc cA r cc b i v W) (y:bT W W'):NwV s B fA fn fc mA a mc cA r cc b i v W':=by
 match i with
 |0|1|2|4|5|9|10|11|13|14|15=>exact h
 |3|6|12=>exact Ca h y
 |7=>obtain⟨aA,e,z⟩:=h;exact⟨aA,e,Ca z y⟩
 |8=>exact dw.cr h y
 |16=>obtain⟨u,e,z⟩:=h;exact⟨u,e,It z y⟩
 |17=>obtain⟨fu,fr,cv,u,e,z,k,q,p⟩:=h;exact⟨fu,fr,cv,u,e,Ca z y,k.cr y,Ca q y,It p y⟩
 |18=>obtain⟨mb,fu,fr,cv,u,e,c,d,z,k,q,p⟩:=h;exact⟨mb,fu,fr,cv,u,e,c,y.aG d (fun x=>x),Ca z y,k.cr y,Ca q y,It p y⟩
 |i+19=>trivial
def gH (fn:Nat) (x:List (Int×Int)) (z:Nat) (y:Int):St :=
 {funcs:=List.replicate fn [],aD:=[⟨x,0,0⟩],aT:=[],aF:=[],aB:=[],aJ:=[],bH:=[],aP:=List.replicate z 0,store:=List.replicate 32 0,stack:=[],size:=bA y,look:=0,move:=0,bG:=1,steps:=0,aL:=0,ai:=false,bp:=0 }
theorem Ri {W:World}{O:Nat→Prop}:∀n,cI W O (List.replicate n (.slice none 0 0)) (List.replicate n [])
 |0=>trivial
 |n+1=>⟨⟨Eh _ _ _ _,fun g h=>by simp[Value.ownBlock]at h⟩,Ri n⟩
theorem Zv {W:World}{B size n:Nat}{t:TypeId}{v:Value}{xs:List Value}(h:W.ownsRow B t size v n xs):dK W (Rw B W) t size v n xs :=
 ⟨Cj h (By _),fun g x=>h.lt g x⟩
theorem Ke {W:World}{O:Nat→Prop}{size:Nat}{t:TypeId}:dK W O t size (.slice none 0 0) 0 []:=⟨Eh _ _ _ _,fun g h=>by simp[Value.ownBlock]at h⟩
theorem ag.start {W:World}{B mb fn z:Nat} {v:List (Int×Int)} {p:Int} {fu fr cv:Value} {u:Nat} (e:B≤mb) (a:aH W mb 212 #[fu,fr,.slice none 0 0,.slice none 0 0,.slice none 0 0,.slice none 0 0,.slice none 0 0,cv,Aj 0,Aj 0,Aj 0,Aj 0,Aj 0,Aj 0,Aj 0,Aj 0,Aj 0,Aj 0,Aj 0,Aj 0,Aj 0,Aj 0,Aj 0,Aj 0,Aj 0,Aj 0,Aj 0,Aj 0,Aj 0,Aj 0,Aj 0,Aj 0,Aj 0,Aj 0,Aj 0,Aj 0,Aj 0,Aj 0,Aj 0,Aj 0,.slice none 0 0,Aj (bA p),Aj 0,Aj 0,Aj 1,Aj 0,Aj 0,.bool false,Aj 0,.map (some u)])
  (X:W.ownsRow B 24 1 fu fn (List.replicate fn (.slice none 0 0))) (j:dw B W fr v) (o:W.ownsRow B 3 1 cv z (ae (List.replicate z 0))) (m:eE W (Rw B W) u) (w:fn≤1000000) (d:z≤1000000) (Z:v.length≤1000000) :
  ∃L,L.fu=fu∧L.cv=cv∧ag W mb (Rw B W) L (gH fn v z p):=by
 obtain⟨s,aA,rfl,k1,k2,Y⟩:=j;refine⟨⟨_,fu,List.replicate fn (.slice none 0 0),.slice (some ⟨s,0,none⟩) 1 1,[aA],.slice none 0 0,.slice none 0 0,.slice none 0 0,.slice none 0 0,.slice none 0 0,cv,.slice none 0 0,u⟩,rfl,rfl,⟨⟨e,a.lt⟩,fun k K=>K.2,a,?_,?_,?_,Ke,Ke,Ke,Ke,Ke,?_,Ke,Ri fn,⟨Zv Y,trivial⟩,dB,dB,dB,dB,dB,dB,dB.symm,m,?_⟩⟩
 ·refine⟨rfl,rfl,fun i x y=>?_,rfl,rfl,rfl,rfl,rfl,rfl,rfl,rfl,rfl,rfl,rfl,rfl,rfl,rfl,rfl,rfl,rfl,rfl⟩;have hi:i<32:=by have:=(aS.1 y).1;simpa [gH]using this
  have H:x=0:=by
   simp only[gH,pI]at y;rw[if_pos hi]at y;exact(oK y).symm
  subst H;simp only;clear y
  match i,hi with
  |0,_=>rfl
  |1,_=>rfl
  |2,_=>rfl
  |3,_=>rfl
  |4,_=>rfl
  |5,_=>rfl
  |6,_=>rfl
  |7,_=>rfl
  |8,_=>rfl
  |9,_=>rfl
  |10,_=>rfl
  |11,_=>rfl
  |12,_=>rfl
  |13,_=>rfl
  |14,_=>rfl
  |15,_=>rfl
  |16,_=>rfl
  |17,_=>rfl
  |18,_=>rfl
  |19,_=>rfl
  |20,_=>rfl
  |21,_=>rfl
  |22,_=>rfl
  |23,_=>rfl
  |24,_=>rfl
  |25,_=>rfl
  |26,_=>rfl
  |27,_=>rfl
  |28,_=>rfl
  |29,_=>rfl
  |30,_=>rfl
  |31,_=>rfl
  |n+32,h=>omega
 ·simp only[gH,ot];exact Zv X
 ·refine⟨⟨by simp[gH,gd],.inr ⟨s,1,_,rfl,By _,k1,Aw,by unfold maxLen;omega,rfl,by simp[gH,gd]⟩⟩,fun g q=>?_⟩;simp only[Value.ownBlock,Bv]at q;subst q;exact⟨k2,k1.lt⟩
 ·simp only[gH,ot];exact Zv o
 ·have r:bI 0:=by unfold bI;omega
  refine⟨by simp[gH],by simp[gH],fun x y=>?_,fun x y=>?_,by simp[gH],by simp[gH],by simp[gH],rfl,by simp[gH],rfl,Fg p,by simp[gH],by simp[gH],by simp[gH],by simp[gH],fun f b=>?_,by simp[gH],fun c l=>?_,by simpa [gH]using w,by simp[gH],by simp[gH],by simp[gH],by simpa [gH]using d,by simp[gH]⟩
  ·rw[oM y];exact r
  ·rw[oM y];exact r
  ·simp only[gH,oZ]at b;subst b;exact⟨By _,By _,Z⟩
  ·rw[oM l];simp
structure gZ (W:World) (B:Nat) (p:Pg) (fA mA cA:Option Addr):Prop where
 fl:∃cs:List Value,aE W B 1 fA p.funcs.length cs∧∀(i:Nat) aA,p.funcs[i]?=some aA→∃A c,cs[i]?=some (.slice A aA.length c)∧aE W B 2 A aA.length (bq aA)
 eO:aE W B 2 mA p.eO.length (bq p.eO)
 aP:aE W B 1 cA p.aP.length (ae p.aP)
structure lO (p:Pg):Prop where
 fl:p.funcs.length≤1000000
 fc:∀c∈p.funcs,c.length≤1000000
 eO:p.eO.length≤1000000
 aP:p.aP.length≤1000000
theorem gZ.aQ {W W':World}{B:Nat}{p:Pg}{fA mA cA:Option Addr}(h:gZ W B p fA mA cA)(x:∀q:Addr,q.block<B→W'.cell? q=W.cell? q):gZ W' B p fA mA cA:=by
 obtain⟨⟨cs,k,y⟩,v,u⟩:=h;exact⟨⟨cs,k.aQ x,fun i aA z=>by obtain⟨A,c,a,b⟩:=y i aA z;exact⟨A,c,a,b.aQ x⟩⟩,v.aQ x,u.aQ x⟩
def Zdm (w:World)(p:Pg)(z:Zn)(e:Ending)(w':World):Prop :=
 ∃mb O L,e=.returned (.pointer (some ⟨mb,0,none⟩))∧ag w' mb O L (ah p z)∧(∀k,O k→w.heap.size≤k)∧Below w.heap.size w w'
def kR (p:Pg)(k:Nat):St := { gH p.funcs.length p.eO p.aP.length p.size with funcs:=mk p.funcs.length k (fun j=>p.funcs.getD j []) [] }
theorem Sd (p:Pg)(k:Nat):(kR p k).funcs.length=p.funcs.length:=Es _ _ _ _
theorem Zej (p:Pg):kR p 0=gH p.funcs.length p.eO p.aP.length p.size:=by unfold kR;rw[Me];rfl
theorem Zje {p:Pg}{k:Nat} {aA:List (Int×Int)} (h:k<p.funcs.length) (x:p.funcs[k]?=some aA):{ kR p k with funcs:=(kR p k).funcs.set k aA } = kR p (k+1):=by
 have:=Kr (n:=p.funcs.length) (i:=k) (F:=fun j=>p.funcs.getD j []) (z:=[]) h;rw[show p.funcs.getD k []=aA from Da x]at this;unfold kR;simp only;rw[this]
def kC (p:Pg)(k:Nat):St := { kR p p.funcs.length with aP:=mk p.aP.length k (fun j=>bA (p.aP.getD j 0)) 0 }
theorem Zjg (p:Pg)(k:Nat):(kC p k).aP.length=p.aP.length:=Es _ _ _ _
theorem Zek (p:Pg):kC p 0=kR p p.funcs.length:=by unfold kC;rw[Me];rfl
theorem Zjf {p:Pg}{k:Nat}{x:Int}(h:k<p.aP.length) (y:p.aP[k]?=some x):{ kC p k with aP:=(kC p k).aP.set k (bA x) } = kC p (k+1):=by
 have:=Kr (n:=p.aP.length) (i:=k) (F:=fun j=>bA (p.aP.getD j 0)) (z:=0) h;rw[show p.aP.getD k 0=x from Da y]at this;unfold kC;simp only;rw[this]
theorem Nr {α:Type}(l:List α)(d:α):(List.range l.length).map (fun j=>l.getD j d)=l:=by
 refine ov fun j=>?_
 rw[Cc];rcases le j l.length with x|x
 ·rw[eq x,Bg x];simp only[ou,Bn,Bg x,ow]
 ·rw[Je (by simpa using x),Je x];rfl
theorem Zjh (p:Pg)(z:Zn):{ kC p p.aP.length with aT:=(List.range z.aF.length).map (oF z),aF:=z.aF.map k2,aB:=(List.range z.aF.length).map (tF z),aJ:=z.aJ,bH:=eK z.aF.length (-1) z.aJ } = ah p z:=by
 unfold kC kR ah;rw[Ta,Ta];have x:(List.range p.aP.length).map (fun j=>bA (p.aP.getD j 0))=p.aP.map bA:=by
  have:=congrArg (List.map bA) (Nr p.aP 0);rw[pR]at this;exact this
 rw[x,Nr];rfl
def Zku (w:World)(p:Pg)(z:Zn)(mb B1:Nat)(fA:Option Addr)(fc:Nat)(mA:Option Addr)(mc:Nat)(cA:Option Addr)(cc:Nat)(oA:Option Addr)(oc:Nat)(uA:Option Addr)(uc:Nat)(tA:Option Addr)(tc:Nat)(eA:Option Addr)(ec:Nat)(fu cv:Value)(i:Value)(wr:World):Prop :=
 ∃(k:Nat) (L:bd),k≤p.funcs.length∧i=Aj k∧L.fu=fu∧L.cv=cv∧ag wr mb (Rw B1 wr) L (kR p k) ∧
  aH wr w.heap.size 26 #[.slice fA p.funcs.length fc,.slice mA p.eO.length mc,.slice cA p.aP.length cc,Aj p.size]∧aH wr (w.heap.size+1) 30 #[.slice oA z.aT.length oc,.slice uA z.aF.length uc,.slice tA z.aB.length tc,.slice eA z.aJ.length ec]∧bT w wr∧B1≤wr.heap.size
def Zkv (w:World)(p:Pg)(z:Zn)(mb B1:Nat)(fA:Option Addr)(fc:Nat)(mA:Option Addr)(mc:Nat)(cA:Option Addr)(cc:Nat)(oA:Option Addr)(oc:Nat)(uA:Option Addr)(uc:Nat)(tA:Option Addr)(tc:Nat)(eA:Option Addr)(ec:Nat)(cv:Value)(i:Value)(wr:World):Prop :=
 ∃(k:Nat) (L:bd),k≤p.aP.length∧i=Aj k∧L.cv=cv∧ag wr mb (Rw B1 wr) L (kC p k) ∧
  aH wr w.heap.size 26 #[.slice fA p.funcs.length fc,.slice mA p.eO.length mc,.slice cA p.aP.length cc,Aj p.size]∧aH wr (w.heap.size+1) 30 #[.slice oA z.aT.length oc,.slice uA z.aF.length uc,.slice tA z.aB.length tc,.slice eA z.aJ.length ec]∧bT w wr∧B1≤wr.heap.size
theorem ag.fuAt {w:World}{mb:Nat}{O:Nat→Prop}{L:bd}{s:St}(h:ag w mb O L s){g n c:Nat} (y:L.fu=.slice (some ⟨g,0,none⟩) n c) {i:Nat} (hi:i<s.funcs.length) :
  (∃u,w.cell? ⟨g,i,none⟩=some u)∧w.frozen? ⟨g,i,none⟩=false∧g<w.heap.size:=by
 obtain⟨r,a,e,_,_,_,v,z,p⟩:=h.fu.aK (by omega);rw[y]at e
 injection e with e x k
 clear x k
 injection e with e
 injection e with e x
 subst e;have q:=h.jZ.len;exact⟨⟨_,z i _ (Bg (by omega))⟩,p _,v⟩
theorem Zav (w:World)(p:Pg)(z:Zn)(hp:lO p)(hz:eu z)(fA mA cA oA tA eA uA:Option Addr)(fc mc cc oc tc ec uc:Nat)(m:gZ w w.heap.size p fA mA cA)(R:cz w w.heap.size z oA uA tA eA) :
  Calls Tryz.prog 70 #[.agg #[.slice fA p.funcs.length fc,.slice mA p.eO.length mc,.slice cA p.aP.length cc,Aj p.size],.agg #[.slice oA z.aT.length oc,.slice uA z.aF.length uc,.slice tA z.aB.length tc,.slice eA z.aJ.length ec]] w (Zdm w p z):=by
 have f2:=Aq hp;have v0:=Aq hz;obtain⟨n1,n2,n3,n4⟩:=hp;have a6:=Aq n2;clear n2;have z9:=Aq (Xg p.funcs.length n1);have u0:=Aq (Jv p.aP.length n4);obtain⟨X,D⟩:∃X,X=(w.alloc (.cells #[.slice fA p.funcs.length fc,.slice mA p.eO.length mc,.slice cA p.aP.length cc,Aj p.size] 26)).alloc (.cells #[.slice oA z.aT.length oc,.slice uA z.aF.length uc,.slice tA z.aB.length tc,.slice eA z.aJ.length ec] 30):=⟨_,rfl⟩;have y5:X.heap.size=w.heap.size+1+1:=by rw[D];simp
 have hq:bT w X:=by rw[D];exact((qu _ w).alloc _).alloc _
 have r:aH X w.heap.size 26 #[.slice fA p.funcs.length fc,.slice mA p.eO.length mc,.slice cA p.aP.length cc,Aj p.size]:=by rw[D];exact(qv _ _ _).alloc _
 have b:aH X (w.heap.size+1) 30 #[.slice oA z.aT.length oc,.slice uA z.aF.length uc,.slice tA z.aB.length tc,.slice eA z.aJ.length ec]:=by rw[D];exact qw _ _ _ (by simp)
 have v7:=Aq hq;have hk:=Aq r;have e5:=Aq b;have e2:=Aq (m.aQ (W':=X) fun q y=>hq.cell y (fun x=>x));have g2:=Aq (R.aQ (W':=X) fun q y=>hq.cell y (fun x=>x));have HX:=Aq D;have h9:=Aq m;have a0:=Aq R;clear D hq r b m R hz;go_enter Tryz.func70,Tryz.ntmps70;go_wp2_with fail
 rw[←HX.o];refine Fs (NwV w.heap.size X.heap.size fA p.funcs.length fc mA p.eO mc cA p.aP.length cc p.size) (fun W=>bT X W) bT (by as_aux_lemma=>kernel_rfl) (by as_aux_lemma=>kernel_rfl) 19 rfl ?_ ?_ ?_ ?_
 ·intro i v W W' hv hr;exact hv.cr hr
 ·exact(qu _ _).drew
 ·intro u7 ev val W hj l u a;have _e2:ev (.tmp 2)=.pointer (some ⟨w.heap.size,0,none⟩):=u.du 2 (by kernel_rfl);have _ec:=u.const;have _ef:=u.func;have r:=l.aG hk.o (fun x=>x);have z0:=r.cell 0;have z1:=r.cell 1;have z2:=r.cell 2;have z3:=r.cell 3;simp only[Az,Ay,Bc]at z0 z1 z2 z3;have I:=r.lt;have j:=Aq l;have a2:=Aq e2.o.eO;have U:=Aq y5;clear l r y5
  match u7,hj with
  |0,_ =>
   refine⟨_,rfl,rfl,?_⟩;unfold Bl;go_simp;exact⟨rfl,j.o,qu _ _⟩
  |1,_ =>
   have d0:=a 0 (by kernel_rfl);have x0:=u.bX 0 10 (by kernel_rfl) (by kernel_rfl);simp only[NwV]at d0;rw[d0]at x0;refine⟨_,rfl,rfl,?_⟩;unfold Bl;go_simp;exact⟨rfl,j.o,qu _ _⟩
  |2,_ =>
   have d1:=a 1 (by kernel_rfl);have x1:=u.bX 1 11 (by kernel_rfl) (by kernel_rfl);simp only[NwV]at d1;rw[d1]at x1;refine⟨_,rfl,rfl,?_⟩;unfold Bl;go_simp;exact⟨rfl,j.o,qu _ _⟩
  |3,_ =>
   have d2:=a 2 (by kernel_rfl);have x2:=u.bX 2 12 (by kernel_rfl) (by kernel_rfl);simp only[NwV]at d2;rw[d2]at x2;have am:=z9.o W;refine⟨_,rfl,rfl,?_⟩;unfold Bl;go_simp;exact⟨Fc (by simp) (by have:=j.o.size;have:=U.o;omega) (by unfold maxLen;omega),j.o.alloc _,(qu _ _).alloc _⟩
  |4,_ =>
   refine⟨_,rfl,rfl,?_⟩;unfold Bl;go_simp;exact⟨rfl,j.o,qu _ _⟩
  |5,_ =>
   have d4:=a 4 (by kernel_rfl);have x4:=u.bX 4 14 (by kernel_rfl) (by kernel_rfl);simp only[NwV]at d4;rw[d4]at x4;refine⟨_,rfl,rfl,?_⟩;unfold Bl;go_simp;exact⟨rfl,j.o,qu _ _⟩
  |6,_ =>
   have d5:=a 5 (by kernel_rfl);have x5:=u.bX 5 15 (by kernel_rfl) (by kernel_rfl);simp only[NwV]at d5;rw[d5]at x5;have b7:=Aq (a2.o.aQ fun p hp=>j.o.cell (by have:=U.o;omega) (fun x=>x));refine⟨_,rfl,rfl,?_⟩;unfold Bl;go_simp;refine(Rk W mA _ mc _ _ b7.o (Ow _) (by omega)).mono ?_;rintro e Z⟨v5,rfl,J,n⟩;exact⟨_,rfl,Cj J (by have:=j.o.size;have:=U.o;omega),j.o.trans n,n⟩
  |7,_ =>
   have d6:=a 6 (by kernel_rfl);have x6:=u.bX 6 16 (by kernel_rfl) (by kernel_rfl);simp only[NwV]at d6;obtain⟨A1,c1,v2⟩:∃A c,val 6=.slice A _ c:=by obtain⟨A,c,e,_⟩:=Ba d6;exact⟨A,c,e⟩
   rw[v2]at x6 d6;have H6:=Aq d6;clear d6;refine⟨_,rfl,rfl,?_⟩;unfold Bl;go_simp;exact⟨⟨_,rfl,H6.o⟩,j.o,qu _ _⟩
  |8,_ =>
   have d7:=a 7 (by kernel_rfl);have x7:=u.bX 7 17 (by kernel_rfl) (by kernel_rfl);simp only[NwV]at d7;obtain⟨aA,a1,h7⟩:=d7;obtain⟨A1,c1,rfl,_⟩:=Ba h7;rw[a1]at x7;have H7:=Aq h7;clear h7;refine⟨_,rfl,rfl,?_⟩;unfold Bl;go_simp;exact⟨⟨_,_,rfl,qv _ _ _,by have:=j.o.size;have:=U.o;omega,Ca H7.o ((qu _ _).alloc _)⟩,j.o.alloc _,(qu _ _).alloc _⟩
  |9,_ =>
   refine⟨_,rfl,rfl,?_⟩;unfold Bl;go_simp;exact⟨rfl,j.o,qu _ _⟩
  |10,_ =>
   have d9:=a 9 (by kernel_rfl);have x9:=u.bX 9 19 (by kernel_rfl) (by kernel_rfl);simp only[NwV]at d9;rw[d9]at x9;refine⟨_,rfl,rfl,?_⟩;unfold Bl;go_simp;exact⟨rfl,j.o,qu _ _⟩
  |11,_ =>
   have kE:=a 10 (by kernel_rfl);have a4:=u.bX 10 20 (by kernel_rfl) (by kernel_rfl);simp only[NwV]at kE;rw[kE]at a4;refine⟨_,rfl,rfl,?_⟩;unfold Bl;go_simp;exact⟨rfl,j.o,qu _ _⟩
  |12,_ =>
   have iq:=a 11 (by kernel_rfl);have v9:=u.bX 11 21 (by kernel_rfl) (by kernel_rfl);simp only[NwV]at iq;rw[iq]at v9;have am:=u0.o W;refine⟨_,rfl,rfl,?_⟩;unfold Bl;go_simp;exact⟨Fc (by rw[Dc,ot,ox]) (by have:=j.o.size;have:=U.o;omega) (by unfold maxLen;omega),j.o.alloc _,(qu _ _).alloc _⟩
  |13,_ =>
   refine⟨_,rfl,rfl,?_⟩;unfold Bl;go_simp;exact⟨rfl,j.o,qu _ _⟩
  |14,_ =>
   have nU:=a 13 (by kernel_rfl);have b6:=u.bX 13 23 (by kernel_rfl) (by kernel_rfl);simp only[NwV]at nU;rw[nU]at b6;refine⟨_,rfl,rfl,?_⟩;unfold Bl;go_simp;exact⟨rfl,j.o,qu _ _⟩
  |15,_ =>
   have nW:=a 14 (by kernel_rfl);have b3:=u.bX 14 24 (by kernel_rfl) (by kernel_rfl);simp only[NwV]at nW;rw[nW]at b3;refine⟨_,rfl,rfl,?_⟩;unfold Bl;go_simp;refine(Iq _ _).mono ?_;rintro e Z⟨rfl,rfl⟩;exact⟨_,rfl,rfl,j.o,qu _ _⟩
  |16,_ =>
   refine⟨_,rfl,rfl,?_⟩;unfold Bl;go_simp;refine(Zcn W).mono ?_;rintro e Z⟨rfl,y9⟩;have n:bT W Z:=y9.cr;exact⟨_,rfl,⟨_,rfl,y9.deeds (by have:=j.o.size;have:=U.o;omega)⟩,j.o.trans n,n⟩
  |17,_ =>
   have G:=a 3 (by kernel_rfl);have x3:=u.bX 3 13 (by kernel_rfl) (by kernel_rfl);simp only[NwV]at G;have d8:=a 8 (by kernel_rfl);have x8:=u.bX 8 18 (by kernel_rfl) (by kernel_rfl);simp only[NwV]at d8;have jH:=a 12 (by kernel_rfl);have b2:=u.bX 12 22 (by kernel_rfl) (by kernel_rfl);simp only[NwV]at jH;have u3:=a 15 (by kernel_rfl);have e3:=u.bX 15 25 (by kernel_rfl) (by kernel_rfl);simp only[NwV]at u3;have mW:=a 16 (by kernel_rfl);have e1:=u.bX 16 26 (by kernel_rfl) (by kernel_rfl);simp only[NwV]at mW;obtain⟨A3,c3,c2⟩:∃A c,val 3=.slice A _ c:=by obtain⟨A,c,e,_⟩:=Ba G;exact⟨A,c,e⟩
   rw[c2]at x3 G;obtain⟨E,aA,v4,h8⟩:=d8;rw[v4]at x8;obtain⟨b1,c8,a7⟩:∃A c,val 12=.slice A _ c:=by obtain⟨A,c,e,_⟩:=Ba jH;exact⟨A,c,e⟩
   rw[a7]at b2 jH;rw[u3]at e3;obtain⟨db,v1,z7⟩:=mW;rw[v1]at e1;have H3:=Aq G;have H8:=Aq h8;have a9:=Aq jH;have b4:=Aq z7;clear G h8 jH z7;refine⟨_,rfl,rfl,?_⟩;unfold Bl;go_simp;exact⟨⟨_,_,_,db,rfl,H3.o,⟨E,aA,rfl,H8.o⟩,a9.o,b4.o⟩,j.o,qu _ _⟩
  |18,_ =>
   have lB:=a 17 (by kernel_rfl);have e4:=u.bX 17 27 (by kernel_rfl) (by kernel_rfl);simp only[NwV]at lB;obtain⟨fu,fr,cv,db,b0,K,Q,P,O⟩:=lB;obtain⟨A3,c3,rfl,_⟩:=Ba K;obtain⟨E,aA,rfl,Q⟩:=Q;obtain⟨b1,c8,rfl,_⟩:=Ba P;rw[b0]at e4;have H1:=Aq K;have H2:=Aq Q;have H3:=Aq P;have H4:=Aq O;clear K Q P O;refine⟨_,rfl,rfl,?_⟩;unfold Bl;go_simp;exact⟨⟨_,_,_,_,db,rfl,by have:=j.o.size;have:=U.o;omega,qv _ _ _,Ca H1.o ((qu _ _).alloc _),dw.cr ⟨E,aA,rfl,H2.o⟩ ((qu _ _).alloc _),Ca H3.o ((qu _ _).alloc _),It H4.o ((qu _ _).alloc _)⟩,j.o.alloc _,(qu _ _).alloc _⟩
  |i+19,hi=>exact absurd hi (by simp)
 ·intro val W l hV;have h0:=hV 18 (by simp);simp only[NwV]at h0;obtain⟨mb,fu,fr,cv,db,hv,hB,hb,K,Q,P,O⟩:=h0;obtain⟨L,C,f,hM⟩:=ag.start hB hb K Q P O n1 n4 n3;have u4:=v7.o.trans l;have y2:Hid (Zku w p z mb X.heap.size fA fc mA mc cA cc oA oc uA uc tA tc eA ec fu cv (Aj 0) W):=Aq ⟨0,L,By _,rfl,C,f,by rw[Zej];exact hM,l.aG hk.o (fun x=>x),l.aG e5.o (fun x=>x),u4,l.size⟩;obtain⟨f9,jZ,f3,_,_⟩:=Ba K;obtain⟨f4,f8,f6,_,_⟩:=Ba P;have hX:=l.aG hk.o (fun x=>x);have z0:=hX.cell 0;simp only[Az,Ay]at z0;have I:=hX.lt;clear hV l hb K Q P O hM u4 C f hX z9 u0;unfold wpOp;change (if _ then _ else _);rw[if_pos (by kernel_rfl)];refine .inl ?_;simp only[Mn,Fx,Az,Ay,Bc,pu];go_simp;go_wp2_with fail
  clear z0 I;go_loopw [32] (fun i wr=>Zku w p z mb X.heap.size fA fc mA mc cA cc oA oc uA uc tA tc eA ec fu cv i wr) (fun i _=>p.funcs.length-(intOf i).toNat)
  case atStart=>exact y2.o
  case round =>
   clear y2;obtain⟨k,L1,Y,rfl,C,f,s,r,b,d,V⟩:=hrel;by_cases v3:(k:Int)<p.funcs.length
   ·obtain⟨aA,hd⟩:∃c,p.funcs[k]?=some c:=⟨_,Bg (by omega)⟩;have m:=h9.o.aQ (W':=wr) fun q y=>d.cell y (fun x=>x)
    obtain⟨cs,y6,y0⟩:=m.fl;obtain⟨Ac,v6,h6,y4⟩:=y0 k aA hd;obtain⟨E,fo,b9,e9,y1⟩:=y6.aK (by omega);subst b9;have x0:=y1 _ _ h6;have f1:E<wr.heap.size:=by omega
    have v8:aA.length≤1000000:=a6.o aA (Bx hd);have h3:=Sd p k;obtain⟨H,kf,M,e0,_,h1,e8,_,_⟩:=s.fu.aK (by rw[h3];omega);rw[h3]at M e0;have c0:=s.aG.cell 0;rw[s.c.c0,M]at c0;have c6:=s.aG.lt;have u2:H≠mb:=s.fu.bz s.aG (by decide) (by rw[M];rfl);have HM:=Aq s;have u6:=Aq y4;have fb:=Aq M;have c4:=Aq C;have u9:=Aq f;have h5:=Aq r;have u1:=Aq b;have F:=Aq d;have a8:=Aq hd;clear s y4 M C f r b d hd y1 h6 y0 y6 m h3;go_wp2_with fail
    go_region_held3 (fun w'=>w'.cell? ⟨mb,0,none⟩=some (.slice (some ⟨H,0,none⟩) p.funcs.length kf)) (first|(go_keep;done)|(refine(mt _ _ _ _ (by intro e;injection e with e;first|exact u2 e|exact u2 e.symm)).trans ?_;assumption))
     (first|(go_at_call 97;refine(Rk wr.drew Ac _ v6 _ _ u6.o (Ow _) (by omega)).mono ?_;rintro e Z⟨v5,rfl,J,n⟩;have hG:=Aq J;have S:=Aq n;obtain⟨T,c5,a3,_,_⟩:=Ba J;subst a3;have B:=Aq (HM.o.drew.cr n);have z6:=B.o.aG.cell 0;rw[B.o.c.c0,fb.o]at z6;obtain⟨r5,f5,l5⟩:=B.o.fuAt fb.o (i:=k) (by rw[Sd];omega);obtain⟨u5,r5⟩:=r5;have c9:=B.o.aG.lt;clear J n))
    have y8:Hid (ag (Z.setCell ⟨H,k,none⟩ (.slice T aA.length c5)) mb (Rw X.heap.size (Z.setCell ⟨H,k,none⟩ (.slice T aA.length c5))) _ _):=Aq ((B.o.setFu fb.o (i:=k) (O':=Rw X.heap.size Z) (v:=.slice T aA.length c5) (aA:=aA) (by rw[Sd];omega) ⟨Cj hG.o (By _),fun g hg=>⟨by have:=(hG.o.lt g hg).1;have:wr.drew.heap.size=wr.heap.size:=rfl;omega,(hG.o.lt g hg).2⟩⟩ v8 (fun q y=>⟨y.1,by have:=y.2;have:=S.o.size;have:wr.drew.heap.size=wr.heap.size:=rfl;omega⟩) (fun q y=>y.2)).mono (fun q y=>by simpa [Rw,World.setCell]using y) (fun q y=>y.2));have h2:w.heap.size≠H:=fun e=>by have:=h1.1;omega
    have w5:w.heap.size+1≠H:=fun e=>by have:=h1.1;omega
    have a5:Hid (Zku w p z mb X.heap.size (some ⟨E,fo,none⟩) fc mA mc cA cc oA oc uA uc tA tc eA ec fu cv (Aj ((k:Int)+1)) (Z.setCell ⟨H,k,none⟩ (.slice T aA.length c5))):=Aq (by
     refine⟨k+1,{ L1 with mG:=L1.mG.set k (.slice T aA.length c5) },by omega,by simp,c4.o,u9.o,?_,((S.o.aG h5.o.drew (fun x=>x)).dE (p:=⟨H,k,none⟩) h2 _),((S.o.aG u1.o.drew (fun x=>x)).dE (p:=⟨H,k,none⟩) w5 _),?_,?_⟩
     ·have:=y8.o;rw[Zje (by omega) a8.o]at this;exact this
     ·have hg:=F.o.drew.trans S.o;exact hg.setCell (.inr (by have:=h1.1;simp only;omega)) _
     ·have:=S.o.size;have:wr.drew.heap.size=wr.heap.size:=rfl;simp only[World.setCell,Array.size_modify];omega)
    clear y8 B HM hG S h5 u1 F u6 c0 z6 r5 f5 l5 c9 x0;go_wp2_with fail
    go_roundw
    case rel=>exact a5.o
    case measure=>simp[intOf];omega
   ·have gv:k=p.funcs.length:=by omega
    subst gv;have z2:=r.cell 2;simp only[Az,Ay,Bc]at z2;have I:=r.lt;have y3:Hid (Zkv w p z mb X.heap.size fA fc mA mc cA cc oA oc uA uc tA tc eA ec cv (Aj 0) wr):=Aq ⟨0,L1,By _,rfl,f,by rw[Zek];exact s,r,b,d,V⟩;clear s r b d V C f;go_wp2_with fail
    clear z2 I;go_loopw [49] (fun i wr=>Zkv w p z mb X.heap.size fA fc mA mc cA cc oA oc uA uc tA tc eA ec cv i wr) (fun i _=>p.aP.length-(intOf i).toNat)
    case atStart=>exact y3.o
    case round =>
     clear y3;obtain⟨k,L2,Y,rfl,f,s,r,b,d,V⟩:=hrel;by_cases v3:(k:Int)<p.aP.length
     ·obtain⟨x,hx⟩:∃c,p.aP[k]?=some c:=⟨_,Bg (by omega)⟩;have m:=h9.o.aQ (W':=wr) fun q y=>d.cell y (fun x=>x)
      obtain⟨cb,co,e6,g0,A5⟩:=m.aP.aK (by omega);subst e6;have x0:=A5 _ _ (Ck hx);have f7:cb<wr.heap.size:=by omega
      have hm:=Zjg p k;obtain⟨N,kv,gf,u8,_,d3,g1,z4,y7⟩:=s.cv.aK (by rw[hm];omega);rw[hm]at gf u8;have c7:=s.aG.cell 7;rw[s.c.c7,gf]at c7;have c6:=s.aG.lt;have r0:=z4 k _ (Ck (show (kC p k).aP[k]?=some 0 by unfold kC;rw[Ja (by omega),if_neg (by omega)]));have f0:=y7 k;have h2:w.heap.size≠N:=fun e=>by have:=d3.1;omega
      have w5:w.heap.size+1≠N:=fun e=>by have:=d3.1;omega
      have b8:Hid (Zkv w p z mb X.heap.size fA fc mA mc (some ⟨cb,co,none⟩) cc oA oc uA uc tA tc eA ec cv (Aj ((k:Int)+1)) ((wr.setCell ⟨N,k,none⟩ (Aj (bA x))).drew)):=Aq (by
       refine⟨k+1,L2,by omega,by simp,f,?_,(r.dE (p:=⟨N,k,none⟩) h2 _).drew,(b.dE (p:=⟨N,k,none⟩) w5 _).drew,?_,?_⟩
       ·have:=(s.jr gf (i:=k) (by rw[hm];omega) (Fg x)).drew;rw[Zjf (by omega) hx]at this;exact this.mono (fun q y=>by simpa [Rw,World.setCell]using y) (fun q y=>y.2)
       ·exact(d.setCell (.inr (by have:=d3.1;simp only;omega)) _).drew
       ·simp only[World.drew,World.setCell,Array.size_modify];exact V)
      clear s r b d V f A5 hx m gf z4 y7 hm;go_wp2_with fail
      go_still_tail 8,(by kernel_rfl)
      still_call (Hk x _)
      repeat still_step
      refine wpStill_nil ?_;change wpList _ _ _ _ _ wr.drew;go_wp2_with fail
      go_roundw
      case rel=>exact b8.o
      case measure=>simp[intOf];omega
     ·have gv:k=p.aP.length:=by omega
      subst gv;have q0:=b.cell 0;have q1:=b.cell 1;have q2:=b.cell 2;have q3:=b.cell 3;simp only[Az,Ay,Bc]at q0 q1 q2 q3;have I:=b.lt;have b5:=d.size;have R:=a0.o.aQ (W':=wr) fun q y=>d.cell y (fun x=>x)
      have z5:=Aq (Xb wr mb (Rw X.heap.size wr) L2 (kC p p.aP.length) s rfl z v0.o w.heap.size b5 (fun k Y e=>by have:=e.1;omega) oA uA tA eA oc uc tc ec R);have F:=Aq d;have e7:=Aq V;clear s r b d V f R;go_wp2_with fail
      refine z5.o.mono ?_;rintro e w9⟨rfl,⟨L9,h4⟩,z8⟩;rw[Zjh]at h4;have HE:Hid (Zdm w p z (.returned (.pointer (some ⟨mb,0,none⟩))) w9):=Aq ⟨mb,_,L9,rfl,h4,fun k Y=>by
       rcases Y with Y|Y
       ·have:=Y.1;omega
       ·have:=F.o.size;omega,by
       have K:Below w.heap.size w wr:=qG F.o Aw;exact K.trans (z8.below F.o.size (fun k Y e=>by have:=e.1;omega))⟩
      clear h4 z8 z5;go_wp2;go_ret;exact HE.o
theorem Wo {s:St}:(Mc.step s).1.steps≤s.steps+1:=by
 rcases x:next s with⟨y,o⟩
 cases o with
 |none =>
  rw[dM x];have:y=(next s).1:=by rw[x]
  simp only;rw[this];unfold next;split
  ·simp
  ·split
   ·simp
   ·simp
 |some ins =>
  rw[fM x];obtain⟨f,r,_,_,n,_,_,_,z,_,u,_⟩:=Qs (op:=ins.1) (a:=ins.2) x;simp only;rw[(Ny ins.1 ins.2 (Le y)).1,z];simp only;omega
theorem Wj {n:Nat}{s s':St} (h:Mc.step s=(s',true)):Mc.steps (n+1) s=Mc.steps n s':=by
 conv=>lhs;unfold Mc.steps
 rw[h]
theorem Sb {n:Nat}{s s':St} (h:Mc.step s=(s',false)):Mc.steps (n+1) s=(s',false):=by
 conv=>lhs;unfold Mc.steps
 rw[h]
theorem ng {n:Nat}{s t:St} (h:Mc.steps n s=(t,false)):Mc.run n s=t:=by unfold Mc.run;rw[h]
theorem Zeu {n:Nat}{s t u:St} (h:Mc.steps n s=(t,true)) (x:next t=(u,none)):Mc.run n s=u:=by unfold Mc.run;rw[h];simp only;rw[x]
theorem Zes {n:Nat}{s t u:St}{i:Int×Int} (h:Mc.steps n s=(t,true)) (x:next t=(u,some i)):Mc.run n s = { u with bp:=53 } := by unfold Mc.run;rw[h];simp only;rw[x]
theorem dZ.mono {B B':Nat}{s:St}{W:World}{og cu to en cv st sk:Value}(h:dZ B s W og cu to en cv st sk)(x:B'≤B):dZ B' s W og cu to en cv st sk :=
 ⟨Cj h.og x,Cj h.cu x,Cj h.to x,Cj h.en x,Cj h.cv x,Cj h.st x,Cj h.sk x⟩
def nT (w:World)(mb:Nat)(s:St)(wr:World):Prop:=∃O L,ag wr mb O L s∧(∀k,O k→w.heap.size≤k)∧Below w.heap.size w wr
theorem nT.step {w wr w':World}{mb:Nat}{s':St}{O:Nat→Prop}(u:∀k,O k→w.heap.size≤k)(y:Below w.heap.size w wr) (z:∃L',ag w' mb (ext O wr w') L' s') (v:Fr O wr w'):nT w mb s' w':=by
 obtain⟨L',z⟩:=z;exact⟨_,L',z,fun k x=>by
  rcases x with x|x
  ·exact u k x
  ·have:=y.size;omega,y.trans (v.below y.size (fun k x e=>by have:=u k e;omega))⟩
theorem nT.same {w wr w':World}{mb:Nat}{s':St}{O:Nat→Prop}(y:∀k,O k→w.heap.size≤k)(z:Below w.heap.size w wr)(x:∃L',ag w' mb O L' s')(u:Fr O wr w'):nT w mb s' w':=by
 obtain⟨L',x⟩:=x;exact⟨_,L',x,y,z.trans (u.below z.size (fun k v e=>by have:=y k e;omega))⟩
def nZ (w w1:World)(mb N:Nat)(s:St)(i:Value)(wr:World):Prop :=
 ∃(k:Nat) (t:St),k≤N∧i=Aj k∧nT w1 mb t wr∧Mc.steps N s=Mc.steps (N-k) t∧t.steps≤k∧aH wr (w.heap.size+1+1) 39 #[.slice none 0 0,.slice none 0 0,.slice none 0 0,.slice none 0 0,.slice none 0 0,.slice none 0 0,.slice none 0 0,Aj 0,Aj 0,Aj 0]
theorem Zjo (w:World)(p:Pg)(z:Zn)(hp:lO p)(hz:eu z)(fA mA cA oA tA eA uA:Option Addr)(fc mc cc oc tc ec uc:Nat)(z3:gZ w w.heap.size p fA mA cA)(x6:cz w w.heap.size z oA uA tA eA)(n:Int)(hN:n≤1000000) :
  Calls Tryz.prog 55 #[.agg #[.slice fA p.funcs.length fc,.slice mA p.eO.length mc,.slice cA p.aP.length cc,Aj p.size],.agg #[.slice oA z.aT.length oc,.slice uA z.aF.length uc,.slice tA z.aB.length tc,.slice eA z.aJ.length ec],Aj n] w (Ub w (Mc.run n.toNat (ah p z))):=by
 obtain⟨X,hX⟩:∃X,X=((w.alloc (.cells #[.slice fA p.funcs.length fc,.slice mA p.eO.length mc,.slice cA p.aP.length cc,Aj p.size] 26)).alloc (.cells #[.slice oA z.aT.length oc,.slice uA z.aF.length uc,.slice tA z.aB.length tc,.slice eA z.aJ.length ec] 30)).alloc (.cells #[.slice none 0 0,.slice none 0 0,.slice none 0 0,.slice none 0 0,.slice none 0 0,.slice none 0 0,.slice none 0 0,Aj 0,Aj 0,Aj 0] 39):=⟨_,rfl⟩;have u2:X.heap.size=w.heap.size+1+1+1:=by rw[hX];simp
 have M:bT w X:=by rw[hX];exact(((qu _ w).alloc _).alloc _).alloc _
 have c4:aH X w.heap.size 26 #[.slice fA p.funcs.length fc,.slice mA p.eO.length mc,.slice cA p.aP.length cc,Aj p.size]:=by rw[hX];exact((qv _ _ _).alloc _).alloc _
 have c3:aH X (w.heap.size+1) 30 #[.slice oA z.aT.length oc,.slice uA z.aF.length uc,.slice tA z.aB.length tc,.slice eA z.aJ.length ec]:=by rw[hX];exact(qw _ _ _ (by simp)).alloc _
 have A3:aH X (w.heap.size+1+1) 39 #[.slice none 0 0,.slice none 0 0,.slice none 0 0,.slice none 0 0,.slice none 0 0,.slice none 0 0,.slice none 0 0,Aj 0,Aj 0,Aj 0]:=by rw[hX];exact qw _ _ _ (by simp)
 have mor:∀{B x5:Nat} {q:Pg} {a b c:Option Addr},B≤x5→gZ X B q a b c→gZ X x5 q a b c:=fun hm h=>by
  obtain⟨⟨cs,h1,h2⟩,h3,h4⟩:=h;exact⟨⟨cs,h1.a_ hm,fun w3 aA hc=>by obtain⟨A,c,x,y⟩:=h2 w3 aA hc;exact⟨A,c,x,y.a_ hm⟩⟩,h3.a_ hm,h4.a_ hm⟩
 have z2:=Zav X p z hp hz fA mA cA oA tA eA uA fc mc cc oc tc ec uc (mor M.size (z3.aQ (W':=X) fun q hq=>M.cell hq (fun x=>x))) (by
  have h:=x6.aQ (W':=X) fun q hq=>M.cell hq (fun x=>x)
  exact⟨h.aT.a_ M.size,h.aF.a_ M.size,h.aB.a_ M.size,h.aJ.a_ M.size⟩)
 have z0:=Aq z2;have h5:=Aq M;have z7:=Aq A3;have HX:=Aq hX;have HN:=Aq hN;have p0:=c4.cell 0;have p1:=c4.cell 1;have p2:=c4.cell 2;have p3:=c4.cell 3;have q0:=c3.cell 0;have q1:=c3.cell 1;have q2:=c3.cell 2;have q3:=c3.cell 3;simp only[Az,Ay,Bc]at p0 p1 p2 p3 q0 q1 q2 q3;clear hX z2 hp hz z3 x6 M c4 c3 A3 mor;go_enter Tryz.func55,Tryz.ntmps55;go_upto_region 1 with fail
 rw[←HX.o];go_wp2_with fail
 refine z0.o.mono ?_;rintro e w1⟨mb,O1,L1,rfl,x4,x8,x0⟩;have x7:Hid (nZ w X mb n.toNat (ah p z) (Aj 0) w1):=Aq ⟨0,_,By _,rfl,⟨O1,L1,x4,x8,x0⟩,rfl,Aw,z7.o.below x0 (by omega)⟩;clear x4 x8 x0 z0 p0 p1 p2 p3 q0 q1 q2 q3;generalize ah p z=sb at *;go_wp2_with fail
 go_loopw [8] (fun w3 wr=>nZ w X mb n.toNat sb w3 wr) (fun w3 _=>n.toNat-(intOf w3).toNat)
 case atStart=>exact x7.o
 case round =>
  clear x7;obtain⟨k,t,hk,rfl,⟨O,L,J,hO,hb⟩,G,u1,A3⟩:=hrel;have z9:=HN.o;by_cases u0:(k:Int)<n
  ·have HC:=Aq (Zeg wr mb O L t J (by omega));have HM:=Aq J;have HO:=Aq hO;have HB:=Aq hb;have i:=Aq G;have c5:=Aq A3;have A6:¬ O (w.heap.size+1+1):=fun e=>by have:=hO _ e;omega
   have c1:=Aq A6;clear J hO hb G A3 A6;go_wp2_with fail
   refine HC.o.mono ?_;rintro e w2⟨rfl,A1,c6⟩;have A7:=c6.aG c5.o c1.o;have N:=nT.step HO.o HB.o A1 c6;have h0:=Wo (s:=t);rcases hs:Mc.step t with⟨t',b⟩
   rw[hs]at N h0;simp only at N h0;obtain⟨m,J⟩:∃m,n.toNat-k=m+1:=⟨n.toNat-k-1,by omega⟩;have A2:=i.o;rw[J]at A2;clear HC HM HO HB i c5 c1 A1 c6;cases b with
   |true =>
    rw[Wj hs]at A2;have z6:Hid (nZ w X mb n.toNat sb (Aj ((k:Int)+1)) w2):=Aq ⟨k+1,t',by omega,by simp,N,by rw[A2,show n.toNat-(k+1)=m by omega],by omega,A7⟩;clear N A2 A7 hs J h0;go_wp2_with fail
    go_roundw
    case rel=>exact z6.o
    case measure=>simp[intOf];omega
   |false =>
    rw[Sb hs]at A2;have A4:=Aq (ng A2);obtain⟨O2,L2,A1,h8,z1⟩:=N;have HC:=Aq (Zac w2 mb O2 L2 t' A1);have h9:=Aq A7;have h6:=Aq z1;clear A1 h8 z1 A7 A2 hs J h0;go_wp2_with fail
    refine HC.o.mono ?_;rintro e E⟨og,cu,to,en,cv,st,sk,rfl,r,F⟩;obtain⟨d,Y,rfl,_⟩:=Ba r.og;obtain⟨j,f,rfl,_⟩:=Ba r.cu;obtain⟨H,V,rfl,_⟩:=Ba r.to;obtain⟨S,U,rfl,_⟩:=Ba r.en;obtain⟨P,R,rfl,_⟩:=Ba r.cv;obtain⟨Z,l,rfl,_⟩:=Ba r.st;obtain⟨g,K,rfl,_⟩:=Ba r.sk;have x2:=h6.o.size;have e1:=Aq (r.mono (show w.heap.size≤w2.heap.size by omega));have D:=Aq (h9.o.below F h9.o.lt);have c2:=Aq (((qG h5.o Aw).trans (h6.o.mono (by omega))).trans (F.mono (show w.heap.size≤w2.heap.size by omega)));clear r F HC h9 h6;have G:=He D.o e1.o (by omega) c2.o (.slice d t'.aT.length Y) (.slice j t'.aF.length f) (.slice H t'.aB.length V) (.slice S t'.aJ.length U) (.slice P t'.aP.length R) (.slice Z 32 l) (.slice g t'.stack.length K) (Aj t'.steps) (Aj t'.aL) (Aj t'.bp);have i:=Aq G;have b0:=D.o.cell;have b1:=D.o.frozen;have b2:=D.o.lt;clear G D e1 c2;go_wp2_with fail
    unfold di at i;generalize ((((((((((E.setCell ⟨w.heap.size+1+1,0,none⟩ (.slice d t'.aT.length Y)).setCell ⟨w.heap.size+1+1,1,none⟩ (.slice j t'.aF.length f)).setCell ⟨w.heap.size+1+1,2,none⟩ (.slice H t'.aB.length V)).setCell ⟨w.heap.size+1+1,3,none⟩ (.slice S t'.aJ.length U)).setCell ⟨w.heap.size+1+1,4,none⟩ (.slice P t'.aP.length R)).setCell ⟨w.heap.size+1+1,5,none⟩ (.slice Z 32 l)).setCell ⟨w.heap.size+1+1,6,none⟩ (.slice g t'.stack.length K)).setCell ⟨w.heap.size+1+1,7,none⟩ (Aj t'.steps)).setCell ⟨w.heap.size+1+1,8,none⟩ (Aj t'.aL)).setCell ⟨w.heap.size+1+1,9,none⟩ (Aj t'.bp))=W9 at i ⊢;have e2:=i.o.2.2.lt;have C:=i.o.2.2.cell;simp only[oz,oL,om]at C;have y0:=C 0;simp only[Az,Ay]at y0;have y1:=C 1;simp only[Az,Ay,Bc]at y1;have y2:=C 2;simp only[Az,Ay,Bc]at y2;have T:=C 3;simp only[Az,Ay,Bc]at T;have y4:=C 4;simp only[Az,Ay,Bc]at y4;have W:=C 5;simp only[Az,Ay,Bc]at W;have y6:=C 6;simp only[Az,Ay,Bc]at y6;have y7:=C 7;simp only[Az,Ay,Bc]at y7;have y8:=C 8;simp only[Az,Ay,Bc]at y8;have y9:=C 9;simp only[Az,Ay,Bc]at y9;clear C;refine bodyPost_ret (v:=.agg #[.slice d t'.aT.length Y,.slice j t'.aF.length f,.slice H t'.aB.length V,.slice S t'.aJ.length U,.slice P t'.aP.length R,.slice Z 32 l,.slice g t'.stack.length K,Aj t'.steps,Aj t'.aL,Aj t'.bp]) (by simp[results,Tryz.results55,go_sem,y0,y1,y2,T,y4,W,y6,y7,y8,y9]) rfl ?_;rw[A4.o];exact⟨_,_,_,_,_,_,_,rfl,i.o.1,i.o.2.1⟩
  ·have x1:n.toNat-k=0:=by omega
   rw[x1]at G;have x3:Mc.steps n.toNat sb=(t,true):=G;have HC:=Aq (Vf wr mb O L t J);have HO:=Aq hO;have HB:=Aq hb;have y3:=Aq x3;have c5:=Aq A3;have A6:¬ O (w.heap.size+1+1):=fun e=>by have:=hO _ e;omega
   have c1:=Aq A6;clear J hO hb G A3 A6 x3 x1;go_wp2_with fail
   refine HC.o.mono ?_;rintro e w2⟨⟨x,y,rfl,z4⟩,A1,c6⟩;have A7:=c6.aG c5.o c1.o;have N:=nT.same HO.o HB.o A1 c6;rcases A5:next t with⟨u,o⟩
   rw[A5]at N;simp only at N ⊢;obtain⟨O2,L2,x9,h8,h7⟩:=N;have y5:=Aq (Zac (w2.alloc (.cells #[Aj x,Aj y] 96)) mb O2 L2 u (x9.alloc _));have I:=Aq (A7.alloc (.cells #[Aj x,Aj y] 96));have c7:=Aq (h7.alloc (by have:=h7.size;omega) (.cells #[Aj x,Aj y] 96));clear x9 h8 h7 A7 A1 c6 z4 HC HO HB c5 c1;cases o with
   |none =>
    have A4:=Aq (Zeu y3.o A5);clear A5 y3;simp only[Option.isSome_none];go_wp2_with fail
    refine y5.o.mono ?_;rintro e E⟨og,cu,to,en,cv,st,sk,rfl,r,F⟩;obtain⟨d,Y,rfl,_⟩:=Ba r.og;obtain⟨j,f,rfl,_⟩:=Ba r.cu;obtain⟨H,V,rfl,_⟩:=Ba r.to;obtain⟨S,U,rfl,_⟩:=Ba r.en;obtain⟨P,R,rfl,_⟩:=Ba r.cv;obtain⟨Z,l,rfl,_⟩:=Ba r.st;obtain⟨g,K,rfl,_⟩:=Ba r.sk;go_upto_region 11 with fail
    have x2:=c7.o.size;have z8:=F.size;have e1:=Aq ((r.mono (show w.heap.size≤(w2.alloc (.cells #[Aj x,Aj y] 96)).heap.size by omega)).cr ((qu _ E).alloc (.cells #[.slice d u.aT.length Y,.slice j u.aF.length f,.slice H u.aB.length V,.slice S u.aJ.length U,.slice P u.aP.length R,.slice Z 32 l,.slice g u.stack.length K,Aj u.steps,Aj u.aL,Aj u.bp] 39)));have D:=Aq ((I.o.below F I.o.lt).alloc (.cells #[.slice d u.aT.length Y,.slice j u.aF.length f,.slice H u.aB.length V,.slice S u.aJ.length U,.slice P u.aP.length R,.slice Z 32 l,.slice g u.stack.length K,Aj u.steps,Aj u.aL,Aj u.bp] 39));have c2:=Aq ((((qG h5.o Aw).trans (c7.o.mono (by omega))).trans (F.mono (show w.heap.size≤(w2.alloc (.cells #[Aj x,Aj y] 96)).heap.size by omega))).alloc (show w.heap.size≤E.heap.size by omega) (.cells #[.slice d u.aT.length Y,.slice j u.aF.length f,.slice H u.aB.length V,.slice S u.aJ.length U,.slice P u.aP.length R,.slice Z 32 l,.slice g u.stack.length K,Aj u.steps,Aj u.aL,Aj u.bp] 39));have Q:=Aq (qv E 39 #[.slice d u.aT.length Y,.slice j u.aF.length f,.slice H u.aB.length V,.slice S u.aJ.length U,.slice P u.aP.length R,.slice Z 32 l,.slice g u.stack.length K,Aj u.steps,Aj u.aL,Aj u.bp]);have z5:E.heap.size≠w.heap.size+1+1:=by have:=(I.o.below F I.o.lt).lt;omega
    clear r F y5 I c7;generalize E.alloc (.cells #[.slice d u.aT.length Y,.slice j u.aF.length f,.slice H u.aB.length V,.slice S u.aJ.length U,.slice P u.aP.length R,.slice Z 32 l,.slice g u.stack.length K,Aj u.steps,Aj u.aL,Aj u.bp] 39)=W4 at *;generalize E.heap.size=rb at *;have g0:=Q.o.cell 0;have g1:=Q.o.cell 1;have g2:=Q.o.cell 2;have g3:=Q.o.cell 3;have g4:=Q.o.cell 4;have g5:=Q.o.cell 5;have g6:=Q.o.cell 6;have g7:=Q.o.cell 7;have g8:=Q.o.cell 8;have g9:=Q.o.cell 9;simp only[Az,Ay,Bc]at g0 g1 g2 g3 g4 g5 g6 g7 g8 g9;have G:=He D.o e1.o (by omega) c2.o (.slice d u.aT.length Y) (.slice j u.aF.length f) (.slice H u.aB.length V) (.slice S u.aJ.length U) (.slice P u.aP.length R) (.slice Z 32 l) (.slice g u.stack.length K) (Aj u.steps) (Aj u.aL) (Aj u.bp);have i:=Aq G;have b0:=D.o.cell;have b1:=D.o.frozen;have b2:=D.o.lt;clear G D e1 c2;go_wp2_with fail
    unfold di at i;generalize ((((((((((W4.setCell ⟨w.heap.size+1+1,0,none⟩ (.slice d u.aT.length Y)).setCell ⟨w.heap.size+1+1,1,none⟩ (.slice j u.aF.length f)).setCell ⟨w.heap.size+1+1,2,none⟩ (.slice H u.aB.length V)).setCell ⟨w.heap.size+1+1,3,none⟩ (.slice S u.aJ.length U)).setCell ⟨w.heap.size+1+1,4,none⟩ (.slice P u.aP.length R)).setCell ⟨w.heap.size+1+1,5,none⟩ (.slice Z 32 l)).setCell ⟨w.heap.size+1+1,6,none⟩ (.slice g u.stack.length K)).setCell ⟨w.heap.size+1+1,7,none⟩ (Aj u.steps)).setCell ⟨w.heap.size+1+1,8,none⟩ (Aj u.aL)).setCell ⟨w.heap.size+1+1,9,none⟩ (Aj u.bp))=W9 at i ⊢;have e2:=i.o.2.2.lt;have C:=i.o.2.2.cell;simp only[oz,oL,om]at C;have y0:=C 0;simp only[Az,Ay]at y0;have y1:=C 1;simp only[Az,Ay,Bc]at y1;have y2:=C 2;simp only[Az,Ay,Bc]at y2;have T:=C 3;simp only[Az,Ay,Bc]at T;have y4:=C 4;simp only[Az,Ay,Bc]at y4;have W:=C 5;simp only[Az,Ay,Bc]at W;have y6:=C 6;simp only[Az,Ay,Bc]at y6;have y7:=C 7;simp only[Az,Ay,Bc]at y7;have y8:=C 8;simp only[Az,Ay,Bc]at y8;have y9:=C 9;simp only[Az,Ay,Bc]at y9;clear C;refine bodyPost_ret (v:=.agg #[.slice d u.aT.length Y,.slice j u.aF.length f,.slice H u.aB.length V,.slice S u.aJ.length U,.slice P u.aP.length R,.slice Z 32 l,.slice g u.stack.length K,Aj u.steps,Aj u.aL,Aj u.bp]) (by simp[results,Tryz.results55,go_sem,y0,y1,y2,T,y4,W,y6,y7,y8,y9]) rfl ?_;rw[A4.o];exact⟨_,_,_,_,_,_,_,rfl,i.o.1,i.o.2.1⟩
   |some ins =>
    have A4:=Aq (Zes y3.o A5);clear A5 y3;simp only[Option.isSome_some];go_wp2_with fail
    refine y5.o.mono ?_;rintro e E⟨og,cu,to,en,cv,st,sk,rfl,r,F⟩;obtain⟨d,Y,rfl,_⟩:=Ba r.og;obtain⟨j,f,rfl,_⟩:=Ba r.cu;obtain⟨H,V,rfl,_⟩:=Ba r.to;obtain⟨S,U,rfl,_⟩:=Ba r.en;obtain⟨P,R,rfl,_⟩:=Ba r.cv;obtain⟨Z,l,rfl,_⟩:=Ba r.st;obtain⟨g,K,rfl,_⟩:=Ba r.sk;go_upto_region 11 with fail
    have x2:=c7.o.size;have z8:=F.size;have e1:=Aq ((r.mono (show w.heap.size≤(w2.alloc (.cells #[Aj x,Aj y] 96)).heap.size by omega)).cr ((qu _ E).alloc (.cells #[.slice d u.aT.length Y,.slice j u.aF.length f,.slice H u.aB.length V,.slice S u.aJ.length U,.slice P u.aP.length R,.slice Z 32 l,.slice g u.stack.length K,Aj u.steps,Aj u.aL,Aj 53] 39)));have D:=Aq ((I.o.below F I.o.lt).alloc (.cells #[.slice d u.aT.length Y,.slice j u.aF.length f,.slice H u.aB.length V,.slice S u.aJ.length U,.slice P u.aP.length R,.slice Z 32 l,.slice g u.stack.length K,Aj u.steps,Aj u.aL,Aj 53] 39));have c2:=Aq ((((qG h5.o Aw).trans (c7.o.mono (by omega))).trans (F.mono (show w.heap.size≤(w2.alloc (.cells #[Aj x,Aj y] 96)).heap.size by omega))).alloc (show w.heap.size≤E.heap.size by omega) (.cells #[.slice d u.aT.length Y,.slice j u.aF.length f,.slice H u.aB.length V,.slice S u.aJ.length U,.slice P u.aP.length R,.slice Z 32 l,.slice g u.stack.length K,Aj u.steps,Aj u.aL,Aj 53] 39));have Q:=Aq (qv E 39 #[.slice d u.aT.length Y,.slice j u.aF.length f,.slice H u.aB.length V,.slice S u.aJ.length U,.slice P u.aP.length R,.slice Z 32 l,.slice g u.stack.length K,Aj u.steps,Aj u.aL,Aj 53]);have z5:E.heap.size≠w.heap.size+1+1:=by have:=(I.o.below F I.o.lt).lt;omega
    clear r F y5 I c7;generalize E.alloc (.cells #[.slice d u.aT.length Y,.slice j u.aF.length f,.slice H u.aB.length V,.slice S u.aJ.length U,.slice P u.aP.length R,.slice Z 32 l,.slice g u.stack.length K,Aj u.steps,Aj u.aL,Aj 53] 39)=W4 at *;generalize E.heap.size=rb at *;have g0:=Q.o.cell 0;have g1:=Q.o.cell 1;have g2:=Q.o.cell 2;have g3:=Q.o.cell 3;have g4:=Q.o.cell 4;have g5:=Q.o.cell 5;have g6:=Q.o.cell 6;have g7:=Q.o.cell 7;have g8:=Q.o.cell 8;have g9:=Q.o.cell 9;simp only[Az,Ay,Bc]at g0 g1 g2 g3 g4 g5 g6 g7 g8 g9;have G:=He D.o e1.o (by omega) c2.o (.slice d u.aT.length Y) (.slice j u.aF.length f) (.slice H u.aB.length V) (.slice S u.aJ.length U) (.slice P u.aP.length R) (.slice Z 32 l) (.slice g u.stack.length K) (Aj u.steps) (Aj u.aL) (Aj 53);have i:=Aq G;have b0:=D.o.cell;have b1:=D.o.frozen;have b2:=D.o.lt;clear G D e1 c2;go_wp2_with fail
    unfold di at i;generalize ((((((((((W4.setCell ⟨w.heap.size+1+1,0,none⟩ (.slice d u.aT.length Y)).setCell ⟨w.heap.size+1+1,1,none⟩ (.slice j u.aF.length f)).setCell ⟨w.heap.size+1+1,2,none⟩ (.slice H u.aB.length V)).setCell ⟨w.heap.size+1+1,3,none⟩ (.slice S u.aJ.length U)).setCell ⟨w.heap.size+1+1,4,none⟩ (.slice P u.aP.length R)).setCell ⟨w.heap.size+1+1,5,none⟩ (.slice Z 32 l)).setCell ⟨w.heap.size+1+1,6,none⟩ (.slice g u.stack.length K)).setCell ⟨w.heap.size+1+1,7,none⟩ (Aj u.steps)).setCell ⟨w.heap.size+1+1,8,none⟩ (Aj u.aL)).setCell ⟨w.heap.size+1+1,9,none⟩ (Aj 53))=W9 at i ⊢;have e2:=i.o.2.2.lt;have C:=i.o.2.2.cell;simp only[oz,oL,om]at C;have y0:=C 0;simp only[Az,Ay]at y0;have y1:=C 1;simp only[Az,Ay,Bc]at y1;have y2:=C 2;simp only[Az,Ay,Bc]at y2;have T:=C 3;simp only[Az,Ay,Bc]at T;have y4:=C 4;simp only[Az,Ay,Bc]at y4;have W:=C 5;simp only[Az,Ay,Bc]at W;have y6:=C 6;simp only[Az,Ay,Bc]at y6;have y7:=C 7;simp only[Az,Ay,Bc]at y7;have y8:=C 8;simp only[Az,Ay,Bc]at y8;have y9:=C 9;simp only[Az,Ay,Bc]at y9;clear C;refine bodyPost_ret (v:=.agg #[.slice d u.aT.length Y,.slice j u.aF.length f,.slice H u.aB.length V,.slice S u.aJ.length U,.slice P u.aP.length R,.slice Z 32 l,.slice g u.stack.length K,Aj u.steps,Aj u.aL,Aj 53]) (by simp[results,Tryz.results55,go_sem,y0,y1,y2,T,y4,W,y6,y7,y8,y9]) rfl ?_;rw[A4.o]
    exact⟨_,_,_,_,_,_,_,rfl,⟨i.o.1.og,i.o.1.cu,i.o.1.to,i.o.1.en,i.o.1.cv,i.o.1.st,i.o.1.sk⟩,i.o.2.1⟩
end
end Go.Proofs.YtnhebmgibiomnaaGreat

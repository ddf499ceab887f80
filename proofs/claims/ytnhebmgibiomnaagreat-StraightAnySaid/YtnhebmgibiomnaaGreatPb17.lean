/- Parts of the proof, joined: MnA MnC. -/
import Derived.Test.YtnhebmgibiomnaaGreatPb16
set_option linter.unusedVariables false
set_option linter.unusedSimpArgs false
set_option maxRecDepth 100000
set_option maxHeartbeats 8000000
namespace Go.Proofs.YtnhebmgibiomnaaGreat
open Go.RowKit Mc
theorem MaC.setCo {L:Lay} {s:St} (h:MaC L s) (u:Value) (l:List (Nat×Nat)):MaC { L with cs:=L.cs.setIfInBounds 6 u,co:=u } { s with cont:=l } := by
 have hz:=h.sz;have hl:=h.stl;refine⟨by simp only[Array.size_setIfInBounds];exact h.sz,h.stl,fun j x hx=>?_,?_,?_,?_,?_,?_,?_,?_,?_,?_,?_,?_,?_,?_,?_,?_,?_,?_,?_⟩
 ·have:j<s.store.length:=(List.getElem?_eq_some_iff.1 hx).1;rw[Array.getElem?_setIfInBounds_ne (by omega)];exact h.st j x hx
 ·rw[Array.getElem?_setIfInBounds_ne (by decide)];exact h.c0
 ·rw[Array.getElem?_setIfInBounds_ne (by decide)];exact h.c1
 ·rw[Array.getElem?_setIfInBounds_ne (by decide)];exact h.c2
 ·rw[Array.getElem?_setIfInBounds_ne (by decide)];exact h.c3
 ·rw[Array.getElem?_setIfInBounds_ne (by decide)];exact h.c4
 ·rw[Array.getElem?_setIfInBounds_ne (by decide)];exact h.c5
 ·rw[Array.getElem?_setIfInBounds_self_of_lt (by omega)]
 ·rw[Array.getElem?_setIfInBounds_ne (by decide)];exact h.c7
 ·rw[Array.getElem?_setIfInBounds_ne (by decide)];exact h.c40
 ·rw[Array.getElem?_setIfInBounds_ne (by decide)];exact h.c41
 ·rw[Array.getElem?_setIfInBounds_ne (by decide)];exact h.c42
 ·rw[Array.getElem?_setIfInBounds_ne (by decide)];exact h.c43
 ·rw[Array.getElem?_setIfInBounds_ne (by decide)];exact h.c44
 ·rw[Array.getElem?_setIfInBounds_ne (by decide)];exact h.c45
 ·rw[Array.getElem?_setIfInBounds_ne (by decide)];exact h.c46
 ·rw[Array.getElem?_setIfInBounds_ne (by decide)];exact h.c47
 ·rw[Array.getElem?_setIfInBounds_ne (by decide)];exact h.c48
 ·rw[Array.getElem?_setIfInBounds_ne (by decide)];exact h.c49
theorem MaC.setZone {L:Lay} {s:St} (h:MaC L s) (u1 u2 u3 u4:Value) (l1 l2:List (Int×Int)) (l3 l4:List Int):MaC { L with cs:=(((L.cs.setIfInBounds 2 u1).setIfInBounds 3 u2).setIfInBounds 4 u3).setIfInBounds 5 u4,og:=u1,cu:=u2,to:=u3,en:=u4 } { s with org:=l1,cur:=l2,touch:=l3,ends:=l4 } := by
 have hz:=h.sz;have hl:=h.stl;refine⟨by simp only[Array.size_setIfInBounds];exact h.sz,h.stl,fun j x hx=>?_,?_,?_,?_,?_,?_,?_,?_,?_,?_,?_,?_,?_,?_,?_,?_,?_,?_,?_⟩
 ·have:j<s.store.length:=(List.getElem?_eq_some_iff.1 hx).1;simp only;rw[Array.getElem?_setIfInBounds_ne (by omega),Array.getElem?_setIfInBounds_ne (by omega),Array.getElem?_setIfInBounds_ne (by omega),Array.getElem?_setIfInBounds_ne (by omega)];exact h.st j x hx
 ·rw[Array.getElem?_setIfInBounds_ne (by decide)];rw[Array.getElem?_setIfInBounds_ne (by decide)];rw[Array.getElem?_setIfInBounds_ne (by decide)];rw[Array.getElem?_setIfInBounds_ne (by decide)];exact h.c0
 ·rw[Array.getElem?_setIfInBounds_ne (by decide)];rw[Array.getElem?_setIfInBounds_ne (by decide)];rw[Array.getElem?_setIfInBounds_ne (by decide)];rw[Array.getElem?_setIfInBounds_ne (by decide)];exact h.c1
 ·rw[Array.getElem?_setIfInBounds_ne (by decide)];rw[Array.getElem?_setIfInBounds_ne (by decide)];rw[Array.getElem?_setIfInBounds_ne (by decide)];rw[Array.getElem?_setIfInBounds_self_of_lt (by(try simp only[Array.size_setIfInBounds]);omega)]
 ·rw[Array.getElem?_setIfInBounds_ne (by decide)];rw[Array.getElem?_setIfInBounds_ne (by decide)];rw[Array.getElem?_setIfInBounds_self_of_lt (by(try simp only[Array.size_setIfInBounds]);omega)]
 ·rw[Array.getElem?_setIfInBounds_ne (by decide)];rw[Array.getElem?_setIfInBounds_self_of_lt (by(try simp only[Array.size_setIfInBounds]);omega)]
 ·rw[Array.getElem?_setIfInBounds_self_of_lt (by(try simp only[Array.size_setIfInBounds]);omega)]
 ·rw[Array.getElem?_setIfInBounds_ne (by decide)];rw[Array.getElem?_setIfInBounds_ne (by decide)];rw[Array.getElem?_setIfInBounds_ne (by decide)];rw[Array.getElem?_setIfInBounds_ne (by decide)];exact h.c6
 ·rw[Array.getElem?_setIfInBounds_ne (by decide)];rw[Array.getElem?_setIfInBounds_ne (by decide)];rw[Array.getElem?_setIfInBounds_ne (by decide)];rw[Array.getElem?_setIfInBounds_ne (by decide)];exact h.c7
 ·rw[Array.getElem?_setIfInBounds_ne (by decide)];rw[Array.getElem?_setIfInBounds_ne (by decide)];rw[Array.getElem?_setIfInBounds_ne (by decide)];rw[Array.getElem?_setIfInBounds_ne (by decide)];exact h.c40
 ·rw[Array.getElem?_setIfInBounds_ne (by decide)];rw[Array.getElem?_setIfInBounds_ne (by decide)];rw[Array.getElem?_setIfInBounds_ne (by decide)];rw[Array.getElem?_setIfInBounds_ne (by decide)];exact h.c41
 ·rw[Array.getElem?_setIfInBounds_ne (by decide)];rw[Array.getElem?_setIfInBounds_ne (by decide)];rw[Array.getElem?_setIfInBounds_ne (by decide)];rw[Array.getElem?_setIfInBounds_ne (by decide)];exact h.c42
 ·rw[Array.getElem?_setIfInBounds_ne (by decide)];rw[Array.getElem?_setIfInBounds_ne (by decide)];rw[Array.getElem?_setIfInBounds_ne (by decide)];rw[Array.getElem?_setIfInBounds_ne (by decide)];exact h.c43
 ·rw[Array.getElem?_setIfInBounds_ne (by decide)];rw[Array.getElem?_setIfInBounds_ne (by decide)];rw[Array.getElem?_setIfInBounds_ne (by decide)];rw[Array.getElem?_setIfInBounds_ne (by decide)];exact h.c44
 ·rw[Array.getElem?_setIfInBounds_ne (by decide)];rw[Array.getElem?_setIfInBounds_ne (by decide)];rw[Array.getElem?_setIfInBounds_ne (by decide)];rw[Array.getElem?_setIfInBounds_ne (by decide)];exact h.c45
 ·rw[Array.getElem?_setIfInBounds_ne (by decide)];rw[Array.getElem?_setIfInBounds_ne (by decide)];rw[Array.getElem?_setIfInBounds_ne (by decide)];rw[Array.getElem?_setIfInBounds_ne (by decide)];exact h.c46
 ·rw[Array.getElem?_setIfInBounds_ne (by decide)];rw[Array.getElem?_setIfInBounds_ne (by decide)];rw[Array.getElem?_setIfInBounds_ne (by decide)];rw[Array.getElem?_setIfInBounds_ne (by decide)];exact h.c47
 ·rw[Array.getElem?_setIfInBounds_ne (by decide)];rw[Array.getElem?_setIfInBounds_ne (by decide)];rw[Array.getElem?_setIfInBounds_ne (by decide)];rw[Array.getElem?_setIfInBounds_ne (by decide)];exact h.c48
 ·rw[Array.getElem?_setIfInBounds_ne (by decide)];rw[Array.getElem?_setIfInBounds_ne (by decide)];rw[Array.getElem?_setIfInBounds_ne (by decide)];rw[Array.getElem?_setIfInBounds_ne (by decide)];exact h.c49
section
variable {w w' : World} {mb : Nat} {O O' : Nat → Prop} {L : Lay} {s : St}
theorem MaL.org_ (h:MaL w mb O L s) {l:List (Int×Int)} (hl:l.length=s.org.length) (hrow:Row w' O' 76 2 L.og s.org.length (pts l)) (hmb:w'.heap[mb]?=w.heap[mb]?) (hk:∀ k,O k→k≠mb→some k≠L.og.ownBlock→w'.heap[k]?=w.heap[k]?) (hO:∀ k,O k→O' k) (hlt:∀ k,O' k→k<w'.heap.size) (hok:Ok { s with org:=l }):MaL w' mb O' L { s with org:=l } := by
 exact⟨hO _ h.mbO,hlt,hmb.trans h.blk,⟨h.c.sz,h.c.stl,h.c.st,h.c.c0,h.c.c1,h.c.c2,h.c.c3,h.c.c4,h.c.c5,h.c.c6,h.c.c7,h.c.c40,h.c.c41,h.c.c42,h.c.c43,h.c.c44,h.c.c45,h.c.c46,h.c.c47,h.c.c48,h.c.c49⟩,h.fu.k h.blk (by decide) hk (fun g hg=>h.fu.apart h.og (by decide) g hg) hO,h.fr.k h.blk (by decide) hk (fun g hg=>h.fr.apart h.og (by decide) g hg) hO,by rw[hl];exact hrow,h.cu.k h.blk (by decide) hk (fun g hg=>h.ap_cu_og g hg) hO,h.to.k h.blk (by decide) hk (fun g hg=>h.to.apart h.og (by decide) g hg) hO,h.en.k h.blk (by decide) hk (fun g hg=>h.en.apart h.og (by decide) g hg) hO,h.co.k h.blk (by decide) hk (fun g hg=>h.co.apart h.og (by decide) g hg) hO,h.cv.k h.blk (by decide) hk (fun g hg=>h.cv.apart h.og (by decide) g hg) hO,h.sk.k h.blk (by decide) hk (fun g hg=>h.sk.apart h.og (by decide) g hg) hO,h.fuc.k h.blk hk (fun g cs hb e=>by obtain⟨_,_,cs2,hb2⟩:=h.og.block e;exact hb.ne_ hb2 (by decide) rfl) hO,h.frc.k h.blk hk (fun g cs hb e=>by obtain⟨_,_,cs2,hb2⟩:=h.og.block e;exact hb.ne_ hb2 (by decide) rfl) hO,h.ap_cu_og,h.ap_to_en,h.ap_to_cv,h.ap_to_sk,h.ap_en_cv,h.ap_en_sk,h.ap_cv_sk,h.dd.k h.blk hk (t0:=76) (by decide) (by decide) (fun g e=>by obtain⟨_,_,cs2,hb2⟩:=h.og.block e;exact⟨cs2,hb2⟩) hO,hok⟩
theorem MaL.cont_ (h:MaL w mb O L s) {u:Value} {cs':Array Value} {l:List (Nat×Nat)} (hblk:Blk w' mb 212 cs') (hc:MaC { L with cs:=cs',co:=u } { s with cont:=l }) (hrow:Row w' O' 252 2 u l.length (cts l)) (_hnew:∀ g,u.ownBlock=some g→L.co.ownBlock=some g∨w.heap.size≤g) (hk:∀ k,O k→k≠mb→some k≠L.co.ownBlock→w'.heap[k]?=w.heap[k]?) (hO:∀ k,O k→O' k) (hlt:∀ k,O' k→k<w'.heap.size) (hok:Ok { s with cont:=l }):MaL w' mb O' { L with cs:=cs',co:=u } { s with cont:=l } := by
 exact⟨hO _ h.mbO,hlt,hblk,hc,h.fu.k h.blk (by decide) hk (fun g hg=>h.fu.apart h.co (by decide) g hg) hO,h.fr.k h.blk (by decide) hk (fun g hg=>h.fr.apart h.co (by decide) g hg) hO,h.og.k h.blk (by decide) hk (fun g hg=>h.og.apart h.co (by decide) g hg) hO,h.cu.k h.blk (by decide) hk (fun g hg=>h.cu.apart h.co (by decide) g hg) hO,h.to.k h.blk (by decide) hk (fun g hg=>h.to.apart h.co (by decide) g hg) hO,h.en.k h.blk (by decide) hk (fun g hg=>h.en.apart h.co (by decide) g hg) hO,hrow,h.cv.k h.blk (by decide) hk (fun g hg=>h.cv.apart h.co (by decide) g hg) hO,h.sk.k h.blk (by decide) hk (fun g hg=>h.sk.apart h.co (by decide) g hg) hO,h.fuc.k h.blk hk (fun g cs hb e=>by obtain⟨_,_,cs2,hb2⟩:=h.co.block e;exact hb.ne_ hb2 (by decide) rfl) hO,h.frc.k h.blk hk (fun g cs hb e=>by obtain⟨_,_,cs2,hb2⟩:=h.co.block e;exact hb.ne_ hb2 (by decide) rfl) hO,h.ap_cu_og,h.ap_to_en,h.ap_to_cv,h.ap_to_sk,h.ap_en_cv,h.ap_en_sk,h.ap_cv_sk,h.dd.k h.blk hk (t0:=252) (by decide) (by decide) (fun g e=>by obtain⟨_,_,cs2,hb2⟩:=h.co.block e;exact⟨cs2,hb2⟩) hO,hok⟩
theorem MaL.funcs_ (h:MaL w mb O L s) {vs:List Value} {fs:List (List (Int×Int))} (hcod:Codes w' O' vs fs) (hrow:Row w' O' 24 1 L.fu fs.length vs) (hmb:w'.heap[mb]?=w.heap[mb]?) (hk:∀ k,O k→k≠mb→some k≠L.fu.ownBlock→w'.heap[k]?=w.heap[k]?) (hO:∀ k,O k→O' k) (hlt:∀ k,O' k→k<w'.heap.size) (hok:Ok { s with funcs:=fs }):MaL w' mb O' { L with fus:=vs } { s with funcs:=fs } := by
 exact⟨hO _ h.mbO,hlt,hmb.trans h.blk,⟨h.c.sz,h.c.stl,h.c.st,h.c.c0,h.c.c1,h.c.c2,h.c.c3,h.c.c4,h.c.c5,h.c.c6,h.c.c7,h.c.c40,h.c.c41,h.c.c42,h.c.c43,h.c.c44,h.c.c45,h.c.c46,h.c.c47,h.c.c48,h.c.c49⟩,hrow,h.fr.k h.blk (by decide) hk (fun g hg=>h.fr.apart h.fu (by decide) g hg) hO,h.og.k h.blk (by decide) hk (fun g hg=>h.og.apart h.fu (by decide) g hg) hO,h.cu.k h.blk (by decide) hk (fun g hg=>h.cu.apart h.fu (by decide) g hg) hO,h.to.k h.blk (by decide) hk (fun g hg=>h.to.apart h.fu (by decide) g hg) hO,h.en.k h.blk (by decide) hk (fun g hg=>h.en.apart h.fu (by decide) g hg) hO,h.co.k h.blk (by decide) hk (fun g hg=>h.co.apart h.fu (by decide) g hg) hO,h.cv.k h.blk (by decide) hk (fun g hg=>h.cv.apart h.fu (by decide) g hg) hO,h.sk.k h.blk (by decide) hk (fun g hg=>h.sk.apart h.fu (by decide) g hg) hO,hcod,h.frc.k h.blk hk (fun g cs hb e=>by obtain⟨_,_,cs2,hb2⟩:=h.fu.block e;exact hb.ne_ hb2 (by decide) rfl) hO,h.ap_cu_og,h.ap_to_en,h.ap_to_cv,h.ap_to_sk,h.ap_en_cv,h.ap_en_sk,h.ap_cv_sk,h.dd.k h.blk hk (t0:=24) (by decide) (by decide) (fun g e=>by obtain⟨_,_,cs2,hb2⟩:=h.fu.block e;exact⟨cs2,hb2⟩) hO,hok⟩
theorem MaL.zone_ (h:MaL w mb O L s) {cs':Array Value} {u1 u2 u3 u4:Value} {l1 l2:List (Int×Int)} {l3 l4:List Int} (hblk:Blk w' mb 212 cs') (hc:MaC { L with cs:=cs',og:=u1,cu:=u2,to:=u3,en:=u4 } { s with org:=l1,cur:=l2,touch:=l3,ends:=l4 }) (hog:Row w' O' 76 2 u1 l1.length (pts l1)) (_nog:∀ g,u1.ownBlock=some g→w.heap.size≤g) (hcu:Row w' O' 76 2 u2 l2.length (pts l2)) (_ncu:∀ g,u2.ownBlock=some g→w.heap.size≤g) (hto:Row w' O' 3 1 u3 l3.length (ints l3)) (nto:∀ g,u3.ownBlock=some g→w.heap.size≤g) (hen:Row w' O' 3 1 u4 l4.length (ints l4)) (nen:∀ g,u4.ownBlock=some g→w.heap.size≤g) (a1:Apart u2 u1) (a2:Apart u3 u4) (hk:∀ k,O k→k≠mb→some k≠none→w'.heap[k]?=w.heap[k]?) (hO:∀ k,O k→O' k) (hlt:∀ k,O' k→k<w'.heap.size) (hok:Ok { s with org:=l1,cur:=l2,touch:=l3,ends:=l4 }):MaL w' mb O' { L with cs:=cs',og:=u1,cu:=u2,to:=u3,en:=u4 } { s with org:=l1,cur:=l2,touch:=l3,ends:=l4 } := by
 exact⟨hO _ h.mbO,hlt,hblk,hc,h.fu.k h.blk (by decide) hk (fun g hg e=>by cases e) hO,h.fr.k h.blk (by decide) hk (fun g hg e=>by cases e) hO,hog,hcu,hto,hen,h.co.k h.blk (by decide) hk (fun g hg e=>by cases e) hO,h.cv.k h.blk (by decide) hk (fun g hg e=>by cases e) hO,h.sk.k h.blk (by decide) hk (fun g hg e=>by cases e) hO,h.fuc.k h.blk hk (fun g cs hb e=>by cases e) hO,h.frc.k h.blk hk (fun g cs hb e=>by cases e) hO,a1,a2,(fun g h1 h2=>by have:=nto g h1;have:=(h.cv.block h2).2.1;omega),(fun g h1 h2=>by have:=nto g h1;have:=(h.sk.block h2).2.1;omega),(fun g h1 h2=>by have:=nen g h1;have:=(h.cv.block h2).2.1;omega),(fun g h1 h2=>by have:=nen g h1;have:=(h.sk.block h2).2.1;omega),h.ap_cv_sk,h.dd.k h.blk hk (t0:=3) (by decide) (by decide) (fun g e=>by cases e) hO,hok⟩
theorem Mc.Ok.org_ (h:Ok s) {l:List (Int×Int)} (h1:∀ p∈l,K32 p.1∧K32 p.2) (h2:l.length=s.org.length):Ok { s with org:=l } :=
 ⟨h.stack,h.slen,h.cvt,h.store,h.stl,h.cur,h1,by rw[←h.orgl];exact h2,h.touch,h.tl,h.size,h.look,h.move,h.mode,h.peak,h.frames,h.flen,h.funcs,h.fnl,h.cont,h.contl,h.curl,h.cvl,h.endl⟩
theorem Mc.Ok.cont_ (h:Ok s) {l:List (Nat×Nat)} (h1:∀ c∈l,c.1≤c.2∧c.2<s.cur.length) (h2:l.length≤1000000):Ok { s with cont:=l } :=
 ⟨h.stack,h.slen,h.cvt,h.store,h.stl,h.cur,h.org,h.orgl,h.touch,h.tl,h.size,h.look,h.move,h.mode,h.peak,h.frames,h.flen,h.funcs,h.fnl,h1,h2,h.curl,h.cvl,h.endl⟩
theorem Mc.Ok.funcs_ (h:Ok s) {l:List (List (Int×Int))} (h1:∀ c∈l,c.length≤1000000) (h2:l.length≤1000000):Ok { s with funcs:=l } :=
 ⟨h.stack,h.slen,h.cvt,h.store,h.stl,h.cur,h.org,h.orgl,h.touch,h.tl,h.size,h.look,h.move,h.mode,h.peak,h.frames,h.flen,h1,h2,h.cont,h.contl,h.curl,h.cvl,h.endl⟩
theorem Mc.Ok.zone_ (h:Ok s) (hc:s.cont=[]) {l1 l2:List (Int×Int)} {l3 l4:List Int} (h1:∀ p∈l1,K32 p.1∧K32 p.2) (h2:∀ p∈l2,K32 p.1∧K32 p.2) (h3:∀ t∈l3,0≤t∧t≤3) (e1:l1.length=l2.length) (e3:l3.length=l2.length) (b:l2.length≤1000000) (b4:l4.length≤1000000):Ok { s with org:=l1,cur:=l2,touch:=l3,ends:=l4 } :=
 ⟨h.stack,h.slen,h.cvt,h.store,h.stl,h2,h1,e1,h3,e3,h.size,h.look,h.move,h.mode,h.peak,h.frames,h.flen,h.funcs,h.fnl,(fun c hcc=>by simp only[hc] at hcc;cases hcc),h.contl,b,h.cvl,b4⟩
theorem MaL.layCu (h:MaL w mb O L s) {g m c:Nat} (hv:L.cu=.slice (some ⟨g,0,none⟩) m c) {i:Nat} (hi:i<s.cur.length) {a b:Int} (ha:K32 a) (hb:K32 b):MaL ((w.setCell ⟨g,i*2,none⟩ (.int .i64 a)).setCell ⟨g,i*2+1,none⟩ (.int .i64 b)) mb O L { s with cur:=s.cur.set i (a,b) } := by
 have hob:L.cu.ownBlock=some g:=by rw[hv];rfl
 have hg:g≠mb:=h.cu.ne_blk h.blk (by decide) hob;refine h.cur_ (by simp) ?_ ((Below.heap_setCell _ _ _ _ hg.symm).trans (Below.heap_setCell _ _ _ _ hg.symm)) (fun k _ _ hk=>(Below.heap_setCell _ _ _ _ (fun e=>hk (by rw[hob,e]))).trans (Below.heap_setCell _ _ _ _ (fun e=>hk (by rw[hob,e])))) (fun _ h=>h) (fun k hk=>by have:=h.olt k hk;simpa [World.setCell] using this) (h.ok.cur_ (fun p hp=>?_) (by simp))
 ·rw[Lp hi];exact(h.cu.set_ hob (by rw[Fj];omega) _).set_ hob (by rw[List.length_set,Fj];omega) _
 ·rcases List.mem_or_eq_of_mem_set hp with hp|rfl
  ·exact h.ok.cur p hp
  ·exact⟨ha,hb⟩
theorem MaL.layOg (h:MaL w mb O L s) {g m c:Nat} (hv:L.og=.slice (some ⟨g,0,none⟩) m c) {i:Nat} (hi:i<s.org.length) {a b:Int} (ha:K32 a) (hb:K32 b):MaL ((w.setCell ⟨g,i*2,none⟩ (.int .i64 a)).setCell ⟨g,i*2+1,none⟩ (.int .i64 b)) mb O L { s with org:=s.org.set i (a,b) } := by
 have hob:L.og.ownBlock=some g:=by rw[hv];rfl
 have hg:g≠mb:=h.og.ne_blk h.blk (by decide) hob;refine h.org_ (by simp) ?_ ((Below.heap_setCell _ _ _ _ hg.symm).trans (Below.heap_setCell _ _ _ _ hg.symm)) (fun k _ _ hk=>(Below.heap_setCell _ _ _ _ (fun e=>hk (by rw[hob,e]))).trans (Below.heap_setCell _ _ _ _ (fun e=>hk (by rw[hob,e])))) (fun _ h=>h) (fun k hk=>by have:=h.olt k hk;simpa [World.setCell] using this) (h.ok.org_ (fun p hp=>?_) (by simp))
 ·rw[Lp hi];exact(h.og.set_ hob (by rw[Fj];omega) _).set_ hob (by rw[List.length_set,Fj];omega) _
 ·rcases List.mem_or_eq_of_mem_set hp with hp|rfl
  ·exact h.ok.org p hp
  ·exact⟨ha,hb⟩
theorem MaL.toured {w1:World} (h:MaL w mb O L s) {u:Value} {c:Nat×Nat} (hc:c.1≤c.2∧c.2<s.cur.length) (hl:s.cont.length<1000000)
  (hrow:Row w1 (ext O w w1) 252 2 u (s.cont.length+1) (cts s.cont++[.int .i64 c.1,.int .i64 c.2])) (hg:w.grownBy w1 L.co.ownBlock) (hnew:∀ g,u.ownBlock=some g→L.co.ownBlock=some g∨w.heap.size≤g) :
  (∃ cs,Blk w1 mb 212 cs∧cs.size=50)∧(∃ L',MaL (w1.setCell ⟨mb,6,none⟩ u) mb (ext O w w1) L' { s with cont:=s.cont++[c] })∧Fr O w (w1.setCell ⟨mb,6,none⟩ u):=by
 have hmb:Blk w1 mb 212 L.cs:=h.blk.grown hg fun e=>h.co.ne_blk h.blk (by decide) e.symm rfl
 have hz:=hg.size;refine⟨⟨_,hmb,h.c.sz⟩,⟨_,h.cont_ (u:=u) (l:=s.cont++[c]) (hmb.set_ 6 u) (h.c.setCo _ _) ?_ hnew ?_ (fun _ h=>.inl h) ?_ (h.ok.cont_ ?_ ?_)⟩,?_⟩
 ·have:=hrow.keep (w':=w1.setCell ⟨mb,6,none⟩ u) (O':=ext O w w1) (fun g hgb=>Below.heap_setCell _ _ _ _ (fun (e:g=mb)=>hrow.ne_blk hmb (by decide) hgb e)) (fun _ h=>h)
  simpa [cts] using this
 ·intro k hk h1 h2;rw[Below.heap_setCell _ _ _ _ h1];exact hg.block k (h.olt k hk) h2
 ·intro k hk;have:=h.ext_lt hz k hk
  simpa [World.setCell] using this
 ·intro y hy;rcases List.mem_append.1 hy with hy|hy
  ·exact h.ok.cont y hy
  ·simp only[List.mem_singleton] at hy;subst hy;exact hc
 ·simp only[List.length_append,List.length_singleton];omega
 ·exact Fr.setCell (⟨hg.os,hg.tape,hg.output,hg.size,fun k hk hs=>hg.block k hk (fun e=>hs (h.co.2 k e.symm))⟩) (.inl h.mbO) _
theorem Codes.set_ {w:World} {O:Nat→Prop}:∀ {vs:List Value} {cs:List (List (Int×Int))} (i:Nat) {v:Value} {c:List (Int×Int)},Codes w O vs cs→Row w O 96 2 v c.length (pts c)→Codes w O (vs.set i v) (cs.set i c)
 | [],[],_,_,_,h,_=>h
 | _::_,_::_,0,_,_,h,hr=>⟨hr,h.2⟩
 | _::_,_::_,i+1,_,_,h,hr=>⟨h.1,Codes.set_ i h.2 hr⟩
 | [],_::_,_,_,_,h,_=>h.elim
 | _::_,[],_,_,_,h,_=>h.elim
theorem MaL.setFu (h:MaL w mb O L s) {g m c:Nat} (hv:L.fu=.slice (some ⟨g,0,none⟩) m c) {i:Nat} (hi:i<s.funcs.length) {v:Value} {code:List (Int×Int)} (hr:Row w O' 96 2 v code.length (pts code)) (hcl:code.length≤1000000) (hO:∀ k,O k→O' k) (hlt:∀ k,O' k→k<w.heap.size) :
  MaL (w.setCell ⟨g,i,none⟩ v) mb O' { L with fus:=L.fus.set i v } { s with funcs:=s.funcs.set i code } := by
 have hob:L.fu.ownBlock=some g:=by rw[hv];rfl
 have hg:g≠mb:=h.fu.ne_blk h.blk (by decide) hob;obtain⟨_,_,csg,hbg⟩:=h.fu.block hob;refine h.funcs_ (w':=w.setCell ⟨g,i,none⟩ v) (vs:=L.fus.set i v) (fs:=s.funcs.set i code) ?_ ?_ (Below.heap_setCell _ _ _ _ hg.symm) (fun k _ _ hk=>Below.heap_setCell _ _ _ _ (fun e=>hk (by rw[hob,e]))) hO (fun k hk=>by have:=hlt k hk;simpa [World.setCell] using this) (h.ok.funcs_ (fun p hp=>?_) (by simpa using h.ok.fnl))
 ·refine Codes.set_ i (h.fuc.keep (fun k cs _ hb=>Below.heap_setCell _ _ _ _ (hb.ne_ hbg (by decide))) hO) (hr.keep (fun k hk=>?_) (fun _ h=>h));obtain⟨_,_,cs,hb⟩:=hr.block hk;exact Below.heap_setCell _ _ _ _ (hb.ne_ hbg (by decide))
 ·rw[List.length_set];have:=(h.fu.set_ hob (j:=i) (by rw[←h.fuc.len] at hi;exact hi) v).keep (w':=w.setCell ⟨g,i,none⟩ v) (O':=O') (fun _ _=>rfl) hO;exact this
 ·rcases List.mem_or_eq_of_mem_set hp with hp|rfl
  ·exact h.ok.funcs p hp
  ·exact hcl
end
end Go.Proofs.YtnhebmgibiomnaaGreat
namespace Go.Proofs.YtnhebmgibiomnaaGreat
open Go.RowKit Mc
def PzV (mb zb B n:Nat) (eA:Option Addr) (es:List Int) (ec:Nat) (i:Nat) (v:Value) (W:World):Prop :=
 match i with
 | 0=>v=.pointer (some ⟨mb,0,none⟩)
 | 1=>v=.int .i64 n
 | 2=>W.ownsRow B 76 2 v n (pts (List.replicate n (0,0)))
 | 3=>v=.int .i64 n
 | 4=>W.ownsRow B 76 2 v n (pts (List.replicate n (0,0)))
 | 5=>v=.int .i64 n
 | 6=>W.ownsRow B 3 1 v n (ints (List.replicate n 0))
 | 7=>v=.pointer (some ⟨zb,3,none⟩)
 | 8=>v=.slice eA es.length ec
 | 9=>W.ownsRow B 3 1 v es.length (ints es)
 | 10=>True
 | 11=>v=.pointer (some ⟨mb,0,none⟩)
 | 12=>v=.pointer (some ⟨mb,2,none⟩)
 | _=>True
def PzD (i:Nat) (v:Value) (j:Nat) (u:Value):Prop :=
 match i with
 | 2=>match j with|4=>Apart v u|10=>False|_=>True
 | 4=>match j with|2=>Apart v u|10=>False|_=>True
 | 6=>match j with|9=>Apart v u|10=>False|_=>True
 | 9=>match j with|6=>Apart v u|10=>False|_=>True
 | 10=>match j with
  | 2=>∃ b c d,v=.agg #[u,b,c,d]
  | 4=>∃ a c d,v=.agg #[a,u,c,d]
  | 6=>∃ a b d,v=.agg #[a,b,u,d]
  | 9=>∃ a b c,v=.agg #[a,b,c,u]
  | _=>True
 | _=>True
theorem PzV.grow {mb zb B n:Nat} {eA:Option Addr} {es:List Int} {ec:Nat} {i:Nat} {v:Value} {W W':World} (h:PzV mb zb B n eA es ec i v W) (hg:Grow W W'):PzV mb zb B n eA es ec i v W':=by
 match i with
 | 0|1|3|5|7|8|10|11|12=>exact h
 | 2|4|6|9=>exact Bc h hg
 | i+13=>trivial
def NewZ (B n:Nat) (es:List Int) (W:World) (og cu to en:Value):Prop :=
 W.ownsRow B 76 2 og n (pts (List.replicate n (0,0)))∧W.ownsRow B 76 2 cu n (pts (List.replicate n (0,0)))∧W.ownsRow B 3 1 to n (ints (List.replicate n 0))∧W.ownsRow B 3 1 en es.length (ints es)∧Apart cu og∧Apart to en
def Qn (W:World) (b o:Nat) (u0 u1 u2 u3:Value):World:=(((W.setCell ⟨b,o,none⟩ u0).setCell ⟨b,o+1,none⟩ u1).setCell ⟨b,o+2,none⟩ u2).setCell ⟨b,o+3,none⟩ u3
theorem MaL.zoned {w W:World} {mb:Nat} {O:Nat→Prop} {L:Lay} {s:St} (h:MaL w mb O L s) (hG:Grow w W) (hc:s.cont=[]) {n:Nat} {es:List Int} {og cu to en:Value} (hz:NewZ w.heap.size n es W og cu to en) (hn:n≤1000000) (hes:es.length≤1000000) :
  ∃ L',MaL (Qn W mb 2 og cu to en) mb (ext O w W) L' { s with org:=List.replicate n (0,0),cur:=List.replicate n (0,0),touch:=List.replicate n 0,ends:=es }∧Fr O w (Qn W mb 2 og cu to en):=by
 obtain⟨h1,h2,h3,h4,a1,a2⟩:=hz;have hb:=hG.blk h.blk (fun x=>x);have hb4:Blk (Qn W mb 2 og cu to en) mb 212 _:=(((hb.set_ 2 og).set_ 3 cu).set_ 4 to).set_ 5 en;have hrow:∀ {t:TypeId} {size m:Nat} {v:Value} {xs:List Value},W.ownsRow w.heap.size t size v m xs→t≠212→Row (Qn W mb 2 og cu to en) (ext O w W) t size v m xs:=by
  intro t size m v xs ho hne;refine⟨Be (Be (Be (Be ho hb hne.symm 2 og) (hb.set_ 2 og) hne.symm 3 cu) ((hb.set_ 2 og).set_ 3 cu) hne.symm 4 to) (((hb.set_ 2 og).set_ 3 cu).set_ 4 to) hne.symm 5 en |> (Bj · (Nat.zero_le _)),fun g hg=>?_⟩;have:=ho.lt g hg;exact .inr this
 have hnew:∀ {t:TypeId} {size m:Nat} {v:Value} {xs:List Value},W.ownsRow w.heap.size t size v m xs→∀ g,v.ownBlock=some g→w.heap.size≤g:=fun ho g hg=>(ho.lt g hg).1
 have hk:∀ k,k≠mb→(Qn W mb 2 og cu to en).heap[k]?=W.heap[k]?:=fun k hk=>by
  unfold Qn;rw[Below.heap_setCell _ _ _ _ hk,Below.heap_setCell _ _ _ _ hk,Below.heap_setCell _ _ _ _ hk,Below.heap_setCell _ _ _ _ hk]
 have hz4:(Qn W mb 2 og cu to en).heap.size=W.heap.size:=by simp[Qn,World.setCell]
 refine⟨_,h.zone_ (w':=Qn W mb 2 og cu to en) (O':=ext O w W) hb4 (h.c.setZone og cu to en (List.replicate n (0,0)) (List.replicate n (0,0)) (List.replicate n 0) es) (by rw[List.length_replicate];exact hrow h1 (by decide)) (hnew h1) (by rw[List.length_replicate];exact hrow h2 (by decide)) (hnew h2) (by rw[List.length_replicate];exact hrow h3 (by decide)) (hnew h3) (hrow h4 (by decide)) (hnew h4) a1 a2
  (fun k hO h1 _=>(hk k h1).trans (hG.block k (h.olt k hO) (fun x=>x))) (fun _ h=>.inl h) (fun k hk=>by rw[hz4];exact h.ext_lt hG.size k hk) ?_,?_⟩
 ·have z0:K32 0:=by unfold K32;omega
  exact h.ok.zone_ hc (fun p hp=>by rw[List.eq_of_mem_replicate hp];exact⟨z0,z0⟩) (fun p hp=>by rw[List.eq_of_mem_replicate hp];exact⟨z0,z0⟩) (fun t ht=>by rw[List.eq_of_mem_replicate ht];omega) (by simp) (by simp) (by simpa using hn) hes
 ·have hF:Fr O w W:=hG.mono (fun _ _ x=>x.elim);unfold Qn;exact(((hF.setCell (p:=⟨mb,2,none⟩) (.inl h.mbO) og).setCell (p:=⟨mb,3,none⟩) (.inl h.mbO) cu).setCell (p:=⟨mb,4,none⟩) (.inl h.mbO) to).setCell (p:=⟨mb,5,none⟩) (.inl h.mbO) en
theorem Eu (n:Int) (w:World):Calls Tryz.prog 98 #[.int .i64 n] w fun e w'=>e=.returned (.int .i64 (k32 n))∧w'=w:=(Ga n w).mono fun _ _ h=>⟨h.1,h.2.symm⟩
theorem MaL.cuAt {w:World} {mb:Nat} {O:Nat→Prop} {L:Lay} {s:St} (h:MaL w mb O L s) {g n c:Nat} (hv:L.cu=.slice (some ⟨g,0,none⟩) n c) {i:Nat} {p:Int×Int} (hi:s.cur[i]?=some p) :
  g<w.heap.size∧w.cell? ⟨g,i*2,none⟩=some (.int .i64 p.1)∧w.cell? ⟨g,i*2+1,none⟩=some (.int .i64 p.2)∧w.frozen? ⟨g,i*2,none⟩=false∧w.frozen? ⟨g,i*2+1,none⟩=false∧w.cell? ⟨mb,3,none⟩=some (.slice (some ⟨g,0,none⟩) n c):=by
 have hil:=(List.getElem?_eq_some_iff.1 hi).1;obtain⟨g',c',e,_,_,_,hl,hc,hf⟩:=h.cu.at_ (by omega);have hc3:=h.blk.cell 3;rw[h.c.c3,hv] at hc3;rw[hv] at e
 injection e with e e2 e3
 clear e2 e3
 injection e with e
 injection e with e e2
 subst e;obtain⟨k0,k1⟩:=Dk hi;rw[Nat.mul_comm 2] at k0 k1;exact⟨hl,hc _ _ k0,hc _ _ k1,hf _,hf _,hc3⟩
theorem MaL.ogAt {w:World} {mb:Nat} {O:Nat→Prop} {L:Lay} {s:St} (h:MaL w mb O L s) {g n c:Nat} (hv:L.og=.slice (some ⟨g,0,none⟩) n c) {i:Nat} {p:Int×Int} (hi:s.org[i]?=some p) :
  g<w.heap.size∧w.cell? ⟨g,i*2,none⟩=some (.int .i64 p.1)∧w.cell? ⟨g,i*2+1,none⟩=some (.int .i64 p.2)∧w.frozen? ⟨g,i*2,none⟩=false∧w.frozen? ⟨g,i*2+1,none⟩=false∧w.cell? ⟨mb,2,none⟩=some (.slice (some ⟨g,0,none⟩) n c):=by
 have hil:=(List.getElem?_eq_some_iff.1 hi).1;obtain⟨g',c',e,_,_,_,hl,hc,hf⟩:=h.og.at_ (by omega);have hc3:=h.blk.cell 2;rw[h.c.c2,hv] at hc3;rw[hv] at e
 injection e with e e2 e3
 clear e2 e3
 injection e with e
 injection e with e e2
 subst e;obtain⟨k0,k1⟩:=Dk hi;rw[Nat.mul_comm 2] at k0 k1;exact⟨hl,hc _ _ k0,hc _ _ k1,hf _,hf _,hc3⟩
theorem MaL.toAt {w:World} {mb:Nat} {O:Nat→Prop} {L:Lay} {s:St} (h:MaL w mb O L s) {g n c:Nat} (hv:L.to=.slice (some ⟨g,0,none⟩) n c) {i:Nat} {p:Int} (hi:s.touch[i]?=some p) :
  g<w.heap.size∧w.cell? ⟨g,i,none⟩=some (.int .i64 p)∧w.frozen? ⟨g,i,none⟩=false∧w.cell? ⟨mb,4,none⟩=some (.slice (some ⟨g,0,none⟩) n c):=by
 have hil:=(List.getElem?_eq_some_iff.1 hi).1;obtain⟨g',c',e,_,_,_,hl,hc,hf⟩:=h.to.at_ (by omega);have hc3:=h.blk.cell 4;rw[h.c.c4,hv] at hc3;rw[hv] at e
 injection e with e e2 e3
 clear e2 e3
 injection e with e
 injection e with e e2
 subst e;exact⟨hl,hc _ _ (Bf hi),hf _,hc3⟩
def pst (s:St) (z:Zn) (k:Nat):St := { s with org:=mk z.cur.length k (oF z) (0,0),cur:=mk z.cur.length k (cF z) (0,0),touch:=mk z.cur.length k (tF z) 0,ends:=z.ends }
structure Pi (w:World) (mb:Nat) (O O2:Nat→Prop) (L2:Lay) (z:Zn) (B:Nat) (oA:Option Addr) (oc:Nat) (cA:Option Addr) (cc:Nat) (tA:Option Addr) (tc:Nat) (eA:Option Addr) (ec:Nat) (st:St) (wr:World):Prop where
 ma:MaL wr mb O2 L2 st
 zb:Blk wr w.heap.size 30 #[.slice oA z.org.length oc,.slice cA z.cur.length cc,.slice tA z.touch.length tc,.slice eA z.ends.length ec]
 za:ZnAt wr B z oA cA tA eA
 fr:Fr O w wr
structure Os (w:World) (B:Nat) (O O2:Nat→Prop):Prop where
 up:∀ k,O k→O2 k
 dn:∀ k,O2 k→O k∨w.heap.size<k
 no:¬ O w.heap.size
 bo:∀ k,k<B→¬ O k
 bw:B≤w.heap.size
theorem Pi.go {w:World} {mb:Nat} {O O2 O3:Nat→Prop} {L2 L3:Lay} {z:Zn} {B:Nat} {oA cA tA eA:Option Addr} {oc cc tc ec:Nat} {st st':St} {wr wr':World} (h:Pi w mb O O2 L2 z B oA oc cA cc tA tc eA ec st wr) (ho:Os w B O O2) (hf:Fr O2 wr wr') (hm:MaL wr' mb O3 L3 st'):Pi w mb O O3 L3 z B oA oc cA cc tA tc eA ec st' wr':=by
 have hz:=h.fr.size;have hbw:=ho.bw;have n0:¬ O2 w.heap.size:=fun e=>by rcases ho.dn _ e with e|e;exact ho.no e;omega
 have n1:∀ k,k<B→¬ O2 k:=fun k hk e=>by rcases ho.dn _ e with e|e;exact ho.bo k hk e;omega
 refine⟨hm,hf.blk h.zb n0,h.za.keep fun p hp=>hf.cell (by omega) (n1 _ hp),?_⟩;exact⟨hf.os.trans h.fr.os,hf.tape.trans h.fr.tape,hf.output.trans h.fr.output,Nat.le_trans h.fr.size hf.size,fun k hk hs=>(hf.block k (by omega) (fun e=>by rcases ho.dn _ e with e|e;exact hs e;omega)).trans (h.fr.block k hk hs)⟩
theorem Pi.alloc {w:World} {mb:Nat} {O O2:Nat→Prop} {L2:Lay} {z:Zn} {B:Nat} {oA cA tA eA:Option Addr} {oc cc tc ec:Nat} {st:St} {wr:World} (h:Pi w mb O O2 L2 z B oA oc cA cc tA tc eA ec st wr) (ho:Os w B O O2) (o:Obj):Pi w mb O O2 L2 z B oA oc cA cc tA tc eA ec st (wr.alloc o) :=
 h.go ho ((Fr.refl _ _).alloc o) (h.ma.alloc o)
theorem Xh:(Tryz.prog.info? 252).map (fun i=>(i.zero,i.size,i.bytes))=some (some (.agg #[.int .i64 0,.int .i64 0]),2,16):=by kernel_rfl
theorem MaL.tour {wA w1:World} {mb:Nat} {O3:Nat→Prop} {L3:Lay} {st:St} (h:MaL wA mb O3 L3 st) {Ac:Option Addr} {n kc:Nat} (hco:L3.co=.slice Ac n kc) {v':Value} {la e:Int} (h0 : -1≤la) (h1:la<e) (h2:e<st.cur.length) (hl:st.cont.length<1000000)
  (ho:w1.ownsRow 0 252 2 v' (st.cont.length+1) (cts st.cont++[.int .i64 (la+1),.int .i64 e])) (hg:wA.grownBy w1 (Value.slice Ac n kc).ownBlock) (hnb:v'.ownBlock=(Value.slice Ac n kc).ownBlock∨v'.ownBlock=some wA.heap.size) :
  ((∃ u,w1.cell? ⟨mb,6,none⟩=some u)∧w1.frozen? ⟨mb,6,none⟩=false∧mb<w1.heap.size)∧(∃ L',MaL (w1.setCell ⟨mb,6,none⟩ v') mb (ext O3 wA w1) L' { st with cont:=st.cont++[((la+1).toNat,e.toNat)] })∧Fr O3 wA (w1.setCell ⟨mb,6,none⟩ v'):=by
 rw[←hco] at hg hnb;have hrow:Row w1 (ext O3 wA w1) 252 2 v' (st.cont.length+1) (cts st.cont++[.int .i64 (((la+1).toNat,e.toNat):Nat×Nat).1,.int .i64 (((la+1).toNat,e.toNat):Nat×Nat).2]):=by
  refine⟨?_,fun g hgb=>?_⟩
  ·simp only;rw[Int.toNat_of_nonneg (by omega),Int.toNat_of_nonneg (by omega)];exact ho
  ·rcases hnb with hn|hn
   ·exact .inl (h.co.2 g (hn ▸ hgb))
   ·rw[hn] at hgb;injection hgb with hgb;subst hgb;exact .inr ⟨Ad,(ho.lt _ hn).2⟩
 obtain⟨⟨cs,hb,hcs⟩,hm,hf⟩:=h.toured (c:=((la+1).toNat,e.toNat)) (by simp only;omega) hl hrow hg (fun g hgb=>by
  rcases hnb with hn|hn
  ·exact .inl (hn ▸ hgb)
  ·rw[hn] at hgb;injection hgb with hgb;exact .inr (by omega))
 refine⟨⟨⟨cs[6]'(by omega),by rw[hb.cell];exact Array.getElem?_eq_getElem (by omega)⟩,hb.frozen 6,hb.lt⟩,hm,hf⟩
def CInv (w:World) (mb:Nat) (O:Nat→Prop) (s:St) (z:Zn) (B:Nat) (oA:Option Addr) (oc:Nat) (cA:Option Addr) (cc:Nat) (tA:Option Addr) (tc:Nat) (eA:Option Addr) (ec:Nat) (l i:Value) (wr:World):Prop :=
 ∃ (j:Nat) (la:Int) (O3:Nat→Prop) (L3:Lay) (cs:List (Nat×Nat)),j≤z.ends.length∧i=.int .i64 j∧l=.int .i64 la∧-1≤la∧la≤z.cur.length∧Os w B O O3∧Pi w mb O O3 L3 z B oA oc cA cc tA tc eA ec { pst s z z.cur.length with cont:=cs } wr∧cs++Mc.conts z.cur.length la (z.ends.drop j)=Mc.conts z.cur.length (-1) z.ends∧cs.length≤j
theorem Sy (w:World) (mb:Nat) (O:Nat→Prop) (L:Lay) (s:St) (h:MaL w mb O L s) (hc:s.cont=[]) (z:Zn) (hz:ZnOk z) (B:Nat) (hBw:B≤w.heap.size) (hBO:∀ k,k<B→¬ O k) (oA cA tA eA:Option Addr) (oc cc tc ec:Nat) (hza:ZnAt w B z oA cA tA eA) :
  Calls Tryz.prog 100 #[.pointer (some ⟨mb,0,none⟩),.agg #[.slice oA z.org.length oc,.slice cA z.cur.length cc,.slice tA z.touch.length tc,.slice eA z.ends.length ec]] w (MPost w mb O { s with org:=(List.range z.cur.length).map (oF z),cur:=z.cur.map k2,touch:=(List.range z.cur.length).map (tF z),ends:=z.ends,cont:=conts z.cur.length (-1) z.ends }):=by
 have hmbl:=h.blk.lt;have HZ:=Aa hz;obtain⟨n1,n2,n3,n4⟩:=hz;have HX:=Aa (h.alloc (.cells #[.slice oA z.org.length oc,.slice cA z.cur.length cc,.slice tA z.touch.length tc,.slice eA z.ends.length ec] 30));have HB:=Aa (Blk.new w 30 #[.slice oA z.org.length oc,.slice cA z.cur.length cc,.slice tA z.touch.length tc,.slice eA z.ends.length ec]);have HF0:=Aa ((Fr.refl O w).alloc (.cells #[.slice oA z.org.length oc,.slice cA z.cur.length cc,.slice tA z.touch.length tc,.slice eA z.ends.length ec] 30));have hZA:ZnAt (w.alloc (.cells #[.slice oA z.org.length oc,.slice cA z.cur.length cc,.slice tA z.touch.length tc,.slice eA z.ends.length ec] 30)) B z oA cA tA eA:=hza.keep fun p hp=>World.cell?_alloc_lt w _ p (by omega)
 have HZA:=Aa hZA;have HBO:=Aa hBO;have HCN:=Aa hc;have HMP:=Aa (Zaq z.cur.length n2);have HMI:=Aa (Ha z.cur.length n2);have HNO:=Aa (h.notO (Nat.le_refl w.heap.size));clear h hza hZA hBO hc;go_enter Tryz.func100,Tryz.ntmps100;go_wp2_with fail
 have hXz:(w.alloc (.cells #[.slice oA z.org.length oc,.slice cA z.cur.length cc,.slice tA z.touch.length tc,.slice eA z.ends.length ec] 30)).heap.size=w.heap.size+1:=by simp
 generalize w.alloc (.cells #[.slice oA z.org.length oc,.slice cA z.cur.length cc,.slice tA z.touch.length tc,.slice eA z.ends.length ec] 30)=X at *;refine Fg (PzV mb w.heap.size X.heap.size z.cur.length eA z.ends ec) PzD (fun W=>Grow X W) Grow (by as_aux_lemma=>kernel_rfl) (by as_aux_lemma=>kernel_rfl) 13 rfl ?_ ?_ ?_ ?_
 ·intro i v W W' hv hr;exact hv.grow hr
 ·exact(Fr.refl _ _).drew
 ·intro j ev val W T hj hG hev hVT hTD hd;have HVT:=Aa hVT;have HTD:=Aa hTD;have _e0:ev (.tmp 0)=.pointer (some ⟨mb,0,none⟩):=hev.other 0 (by kernel_rfl);have _e3:ev (.tmp 3)=.pointer (some ⟨w.heap.size,0,none⟩):=hev.other 3 (by kernel_rfl);have _e4:ev (.tmp 4)=.int .i64 z.cur.length:=hev.other 4 (by kernel_rfl);have _ec:=hev.const;have _ef:=hev.func;have hbz:=hG.blk HB.out (fun x=>x);have z3:=Ab hbz 3 rfl;have hzl:=hbz.lt;have lmb:=(HX.out.grow hG).blk.lt;have HGG:=Aa hG;have HE:=Aa HZA.out.ends;clear hG hVT hTD hbz
  match j,hj with
  | 0,_ =>
   refine⟨_,rfl,rfl,?_⟩;unfold Ar;go_simp;exact⟨rfl,HGG.out,Fr.refl _ _,fun j _=>trivial⟩
  | 1,_ =>
   refine⟨_,rfl,rfl,?_⟩;unfold Ar;go_simp;exact⟨rfl,HGG.out,Fr.refl _ _,fun j _=>trivial⟩
  | 3,_ =>
   refine⟨_,rfl,rfl,?_⟩;unfold Ar;go_simp;exact⟨rfl,HGG.out,Fr.refl _ _,fun j _=>trivial⟩
  | 5,_ =>
   refine⟨_,rfl,rfl,?_⟩;unfold Ar;go_simp;exact⟨rfl,HGG.out,Fr.refl _ _,fun j _=>trivial⟩
  | 2,_ =>
   have d1:=hd 1 (by kernel_rfl);have x1:=hev.dep 1 14 (by kernel_rfl) (by kernel_rfl);simp only[PzV] at d1;rw[d1] at x1;have hmk:=HMP.out W;refine⟨_,rfl,rfl,?_⟩;unfold Ar;go_simp;refine⟨Cx (by rw[Fj,List.length_replicate]) (by have:=HGG.out.size;omega) (by unfold maxLen;omega),HGG.out.alloc _,(Fr.refl _ _).alloc _,fun j hj=>?_⟩;have hvj:=HVT.out j hj;have hdj:=HTD.out j hj
   match j with
   | 4=>exact Kc (by simpa only[PzV] using hvj) rfl
   | 10=>exact absurd (hdj.symm.trans (by kernel_rfl)) Bool.false_ne_true
   | 0|1|2|3|5|6|7|8|9|11|12=>trivial
   | j+13=>trivial
  | 4,_ =>
   have d3:=hd 3 (by kernel_rfl);have x3:=hev.dep 3 16 (by kernel_rfl) (by kernel_rfl);simp only[PzV] at d3;rw[d3] at x3;have hmk:=HMP.out W;refine⟨_,rfl,rfl,?_⟩;unfold Ar;go_simp;refine⟨Cx (by rw[Fj,List.length_replicate]) (by have:=HGG.out.size;omega) (by unfold maxLen;omega),HGG.out.alloc _,(Fr.refl _ _).alloc _,fun j hj=>?_⟩;have hvj:=HVT.out j hj;have hdj:=HTD.out j hj
   match j with
   | 2=>exact Kc (by simpa only[PzV] using hvj) rfl
   | 10=>exact absurd (hdj.symm.trans (by kernel_rfl)) Bool.false_ne_true
   | 0|1|3|4|5|6|7|8|9|11|12=>trivial
   | j+13=>trivial
  | 6,_ =>
   have d5:=hd 5 (by kernel_rfl);have x5:=hev.dep 5 18 (by kernel_rfl) (by kernel_rfl);simp only[PzV] at d5;rw[d5] at x5;have hmk:=HMI.out W;refine⟨_,rfl,rfl,?_⟩;unfold Ar;go_simp;refine⟨Cx (by rw[Bw,List.length_replicate,Nat.mul_one]) (by have:=HGG.out.size;omega) (by unfold maxLen;omega),HGG.out.alloc _,(Fr.refl _ _).alloc _,fun j hj=>?_⟩;have hvj:=HVT.out j hj;have hdj:=HTD.out j hj
   match j with
   | 9=>exact Kc (by simpa only[PzV] using hvj) rfl
   | 10=>exact absurd (hdj.symm.trans (by kernel_rfl)) Bool.false_ne_true
   | 0|1|2|3|4|5|6|7|8|11|12=>trivial
   | j+13=>trivial
  | 7,_ =>
   refine⟨_,rfl,rfl,?_⟩;unfold Ar;go_simp;exact⟨rfl,HGG.out,Fr.refl _ _,fun j _=>trivial⟩
  | 8,_ =>
   have d7:=hd 7 (by kernel_rfl);have x7:=hev.dep 7 20 (by kernel_rfl) (by kernel_rfl);simp only[PzV] at d7;rw[d7] at x7;refine⟨_,rfl,rfl,?_⟩;unfold Ar;go_simp;exact⟨rfl,HGG.out,Fr.refl _ _,fun j _=>trivial⟩
  | 9,_ =>
   have d8:=hd 8 (by kernel_rfl);have x8:=hev.dep 8 21 (by kernel_rfl) (by kernel_rfl);simp only[PzV] at d8;rw[d8] at x8;have HRE:=Aa (HE.out.keep fun p hp=>HGG.out.cell (by omega) (fun x=>x));refine⟨_,rfl,rfl,?_⟩;unfold Ar;go_simp;refine(Ec W eA _ ec _ _ HRE.out (Ez _) (by omega)).mono ?_;rintro e w5 ⟨v5,rfl,ho5,hg5⟩;refine⟨_,rfl,Bj ho5 (by have:=HGG.out.size;omega),HGG.out.trans hg5,hg5,fun j hj=>?_⟩;have hvj:=HVT.out j hj;have hdj:=HTD.out j hj
   match j with
   | 6=>exact Cn (by simpa only[PzV] using hvj) ho5
   | 10=>exact absurd (hdj.symm.trans (by kernel_rfl)) Bool.false_ne_true
   | 0|1|2|3|4|5|7|8|9|11|12=>trivial
   | j+13=>trivial
  | 10,_ =>
   have d2:=hd 2 (by kernel_rfl);have x2:=hev.dep 2 15 (by kernel_rfl) (by kernel_rfl);simp only[PzV] at d2;have d4:=hd 4 (by kernel_rfl);have x4:=hev.dep 4 17 (by kernel_rfl) (by kernel_rfl);simp only[PzV] at d4;have d6:=hd 6 (by kernel_rfl);have x6:=hev.dep 6 19 (by kernel_rfl) (by kernel_rfl);simp only[PzV] at d6;have d9:=hd 9 (by kernel_rfl);have x9:=hev.dep 9 22 (by kernel_rfl) (by kernel_rfl);simp only[PzV] at d9;obtain⟨A1,c1,hv1⟩:∃ A c,val 2=.slice A _ c:=by obtain⟨A,c,e,_⟩:=Ae d2;exact⟨A,c,e⟩
   rw[hv1] at x2;obtain⟨A2,c2,hv2⟩:∃ A c,val 4=.slice A _ c:=by obtain⟨A,c,e,_⟩:=Ae d4;exact⟨A,c,e⟩
   rw[hv2] at x4;obtain⟨A3,c3,hv3⟩:∃ A c,val 6=.slice A _ c:=by obtain⟨A,c,e,_⟩:=Ae d6;exact⟨A,c,e⟩
   rw[hv3] at x6;obtain⟨A4,c4,hv4⟩:∃ A c,val 9=.slice A _ c:=by obtain⟨A,c,e,_⟩:=Ae d9;exact⟨A,c,e⟩
   rw[hv4] at x9;have H1:=Aa hv1;have H2:=Aa hv2;have H3:=Aa hv3;have H4:=Aa hv4;clear d2 d4 d6 d9 hv1 hv2 hv3 hv4;refine⟨_,rfl,rfl,?_⟩;unfold Ar;go_simp;refine⟨trivial,HGG.out,Fr.refl _ _,fun j hj=>?_⟩
   match j with
   | 2=>exact⟨_,_,_,by rw[H1.out]⟩
   | 4=>exact⟨_,_,_,by rw[H2.out]⟩
   | 6=>exact⟨_,_,_,by rw[H3.out]⟩
   | 9=>exact⟨_,_,_,by rw[H4.out]⟩
   | 0|1|3|5|7|8|10|11|12=>trivial
   | j+13=>trivial
  | 11,_ =>
   have d0:=hd 0 (by kernel_rfl);have x0:=hev.dep 0 13 (by kernel_rfl) (by kernel_rfl);simp only[PzV] at d0;rw[d0] at x0;refine⟨_,rfl,rfl,?_⟩;unfold Ar;go_simp;exact⟨rfl,HGG.out,Fr.refl _ _,fun j _=>trivial⟩
  | 12,_ =>
   have d11:=hd 11 (by kernel_rfl);have x11:=hev.dep 11 24 (by kernel_rfl) (by kernel_rfl);simp only[PzV] at d11;rw[d11] at x11;refine⟨_,rfl,rfl,?_⟩;unfold Ar;go_simp;exact⟨rfl,HGG.out,Fr.refl _ _,fun j _=>trivial⟩
  | i+13,hi=>exact absurd hi (by simp)
 ·intro val W hG hV hD;have v2:=hV 2 (by simp);have v4:=hV 4 (by simp);have v6:=hV 6 (by simp);have v9:=hV 9 (by simp);have v12:=hV 12 (by simp);simp only[PzV] at v2 v4 v6 v9 v12;have d24:Apart (val 4) (val 2):=by rcases hD 2 4 (by simp) (by simp) (by simp) with h|h;exact Apart.symm h;exact h
  have d69:Apart (val 6) (val 9):=by rcases hD 6 9 (by simp) (by simp) (by simp) with h|h;exact h;exact Apart.symm h
  have e2:∃ b c d,val 10=.agg #[val 2,b,c,d]:=by rcases hD 10 2 (by simp) (by simp) (by simp) with h|h;exact h;exact h.elim
  have e4:∃ a c d,val 10=.agg #[a,val 4,c,d]:=by rcases hD 10 4 (by simp) (by simp) (by simp) with h|h;exact h;exact h.elim
  have e6:∃ a b d,val 10=.agg #[a,b,val 6,d]:=by rcases hD 10 6 (by simp) (by simp) (by simp) with h|h;exact h;exact h.elim
  have e9:∃ a b c,val 10=.agg #[a,b,c,val 9]:=by rcases hD 10 9 (by simp) (by simp) (by simp) with h|h;exact h;exact h.elim
  obtain⟨b2,c2,d2,e2⟩:=e2;obtain⟨a4,c4,d4,e4⟩:=e4;obtain⟨a6,b6,d6,e6⟩:=e6;obtain⟨a9,b9,c9,e9⟩:=e9;have e10:val 10=.agg #[val 2,val 4,val 6,val 9]:=by
   rw[e2] at e4 e6 e9 ⊢;simp only[Value.agg.injEq,Array.mk.injEq,List.cons.injEq,and_true] at e4 e6 e9 ⊢;exact⟨trivial,e4.2.1,e6.2.2.1,e9.2.2.2⟩
  clear e2 e4 e6 e9;have hzo:=Ae v2;obtain⟨A1,k1,hq1,_⟩:=Ae v2;obtain⟨A2,k2,hq2,_⟩:=Ae v4;obtain⟨A3,k3,hq3,_⟩:=Ae v6;obtain⟨A4,k4,hq4,_⟩:=Ae v9;rw[hq1,hq2,hq3,hq4] at e10;rw[hq1] at v2 d24;rw[hq2] at v4 d24;rw[hq3] at v6 d69;rw[hq4] at v9 d69;obtain⟨L2,hM2,hF2⟩:=HX.out.zoned hG HCN.out ⟨v2,v4,v6,v9,d24,d69⟩ n2 n4;have HM2:=Aa hM2;have HF2:=Aa (HF0.out.trans hF2);have hmX:=HX.out.mbO;have hbz2:Blk (Qn W mb 2 (.slice A1 z.cur.length k1) (.slice A2 z.cur.length k2) (.slice A3 z.cur.length k3) (.slice A4 z.ends.length k4)) w.heap.size 30 #[.slice oA z.org.length oc,.slice cA z.cur.length cc,.slice tA z.touch.length tc,.slice eA z.ends.length ec]:=hF2.blk HB.out HNO.out;have HBZ2:=Aa hbz2;have hza2:ZnAt (Qn W mb 2 (.slice A1 z.cur.length k1) (.slice A2 z.cur.length k2) (.slice A3 z.cur.length k3) (.slice A4 z.ends.length k4)) B z oA cA tA eA:=HZA.out.keep fun p hp=>hF2.cell (by omega) (HBO.out _ hp)
  have HZA2:=Aa hza2;have bM:=hG.blk HX.out.blk (fun x=>x);have g2:∃ u,W.cell? ⟨mb,2,none⟩=some u:=⟨_,by rw[bM.cell];exact HX.out.c.c2⟩;have g3:∃ u,W.cell? ⟨mb,3,none⟩=some u:=⟨_,by rw[bM.cell];exact HX.out.c.c3⟩;have g4:∃ u,W.cell? ⟨mb,4,none⟩=some u:=⟨_,by rw[bM.cell];exact HX.out.c.c4⟩;have g5:∃ u,W.cell? ⟨mb,5,none⟩=some u:=⟨_,by rw[bM.cell];exact HX.out.c.c5⟩;obtain⟨u2,g2⟩:=g2;obtain⟨u3,g3⟩:=g3;obtain⟨u4,g4⟩:=g4;obtain⟨u5,g5⟩:=g5;have q2:=bM.frozen 2;have q3:=bM.frozen 3;have q4:=bM.frozen 4;have q5:=bM.frozen 5;have lmW:=bM.lt;have hzW:=hG.size;clear hV hD hG hq1 hq2 hq3 hq4 hzo v2 v4 v6 v9 d24 d69 hM2 hF2 hbz2 hza2 bM HX HF0 HB HZA HMP HMI;unfold wpOp;change (if _ then _ else _);rw[if_pos (by kernel_rfl)];refine .inl ?_;simp only[Nq,Eb,List.getElem?_toArray,List.getElem?_cons_zero,List.getElem?_cons_succ,Option.bind_some];go_simp;have hext:∀ k,ext O X W k→O k∨w.heap.size<k:=fun k hk=>by rcases hk with hk|hk;exact .inl hk;exact .inr (by omega)
  have HOS:=Aa (Os.mk (w:=w) (B:=B) (O:=O) (O2:=ext O X W) (fun k h=>.inl h) hext HNO.out HBO.out hBw);have HP0:Hid (Pi w mb O (ext O X W) L2 z B oA oc cA cc tA tc eA ec (pst s z 0) (Qn W mb 2 (.slice A1 z.cur.length k1) (.slice A2 z.cur.length k2) (.slice A3 z.cur.length k3) (.slice A4 z.ends.length k4))):=Aa ⟨by
   have:=HM2.out;unfold pst;rw[Jl,Jl,Jl];exact this,HBZ2.out,HZA2.out,HF2.out⟩
  unfold Qn at HP0;clear HM2 HF2 HBZ2 HZA2 hext g2 g3 g4 g5 q2 q3 q4 q5 lmW hzW e10;generalize ((((W.setCell ⟨mb,2,none⟩ (.slice A1 z.cur.length k1)).setCell ⟨mb,3,none⟩ (.slice A2 z.cur.length k2)).setCell ⟨mb,4,none⟩ (.slice A3 z.cur.length k3)).setCell ⟨mb,5,none⟩ (.slice A4 z.ends.length k4))=W2 at HP0 ⊢;generalize ext O X W=O2 at *;generalize hX1:X.heap.size=X1 at *;have z0:=HP0.out.zb.cell;have z1:=HP0.out.zb.lt;have y1:=z0 1;simp only[List.getElem?_toArray,List.getElem?_cons_zero,List.getElem?_cons_succ] at y1;clear z0;go_wp2_with fail
  clear y1 z1;go_loopw [29] (fun i wr=>∃ k:Nat,k≤z.cur.length∧i=.int .i64 k∧Pi w mb O O2 L2 z B oA oc cA cc tA tc eA ec (pst s z k) wr) (fun i _=>z.cur.length-(intOf i).toNat)
  case atStart=>exact⟨0,Nat.zero_le _,rfl,HP0.out⟩
  case round =>
   clear HP0;obtain⟨k,hk,rfl,hp⟩:=hrel;by_cases hlt:(k:Int)<z.cur.length
   ·obtain⟨⟨x,y⟩,hxy⟩:∃ p,z.cur[k]?=some p:=⟨_,List.getElem?_eq_getElem (by omega)⟩;obtain⟨cb,co,hcA,hcb,hcc⟩:=hp.za.cur.at_ (by omega);subst hcA;have x0:=hcc _ _ (Dk hxy).1;have x1:=hcc _ _ (Dk hxy).2;rw[Nat.mul_comm 2] at x0 x1;rw[←Nat.add_assoc] at x1;dsimp only at x0 x1;have hsz:=hp.fr.size;have hcbl:cb<wr.heap.size:=by omega
    have hnl:(pst s z k).cur.length=z.cur.length:=Cs _ _ _ _;have hnl2:(pst s z k).org.length=z.cur.length:=Cs _ _ _ _;have hnl3:(pst s z k).touch.length=z.cur.length:=Cs _ _ _ _;obtain⟨gc,kc,hcu,hkc,_,hgcO,hgcl,hgcc,hgcf⟩:=hp.ma.cu.at_ (by omega);obtain⟨go,ko,hog,hko,_,hgoO,hgol,hgoc,hgof⟩:=hp.ma.og.at_ (by omega);obtain⟨gt,kt,hto,hkt,_,hgtO,hgtl,hgtc,hgtf⟩:=hp.ma.to.at_ (by omega);rw[hnl] at hcu hkc;rw[hnl2] at hog hko;rw[hnl3] at hto hkt;have HP:=Aa hp;have HXY:=Aa hxy;have HCU:=Aa hcu;have HOG:=Aa hog;have HTO:=Aa hto;have hne1:gc≠go:=fun e=>hp.ma.ap_cu_og gc (by rw[hcu];rfl) (by rw[hog,←e];rfl)
    have hgm1:gc≠mb:=hp.ma.cu.ne_blk hp.ma.blk (by decide) (by rw[hcu];rfl);have hgm2:go≠mb:=hp.ma.og.ne_blk hp.ma.blk (by decide) (by rw[hog];rfl);have hgm3:gt≠mb:=hp.ma.to.ne_blk hp.ma.blk (by decide) (by rw[hto];rfl);clear hp hcc hgcc hgoc hgtc hgcf hgof hgtf hxy hcu hog hto hnl hnl2 hnl3;go_wp2_with fail
    have HP1:=Aa (HP.out.alloc HOS.out (.cells #[.int .i64 x,.int .i64 y] 76));have HPB:=Aa (Blk.new wr 76 #[.int .i64 x,.int .i64 y]);have HPN:=Aa (HP.out.ma.notO (Nat.le_refl wr.heap.size));clear HP x0 x1 hcbl;generalize wr.alloc (.cells #[.int .i64 x,.int .i64 y] 76)=W3 at *;generalize wr.heap.size=pb at *;have p0:=Ab HPB.out 0 rfl;have p1:=Ab HPB.out 1 rfl;have c3:=HP1.out.ma.blk.cell 3;rw[HP1.out.ma.c.c3,HCU.out] at c3;obtain⟨gc',kc',hcu',_,_,_,hgcl3,hgcc,hgcf⟩:=HP1.out.ma.cu.at_ (by unfold pst;rw[Cs];omega);rw[HCU.out] at hcu'
    injection hcu' with hcu' e2 e3
    clear e2 e3
    injection hcu' with hcu'
    injection hcu' with hcu' e2
    clear e2;subst hcu';have hg0:(pst s z k).cur[k]?=some (0,0):=by unfold pst;rw[Gi (by omega),if_neg (by omega)]
    have r0:=hgcc _ _ (Dk hg0).1;have r1:=hgcc _ _ (Dk hg0).2;rw[Nat.mul_comm 2] at r0 r1;dsimp only at r0 r1;have f0:=hgcf (k*2);have f1:=hgcf (k*2+1);have hlm3:=HP1.out.ma.blk.lt;have hpgc:pb≠gc:=fun e=>HPN.out (e ▸ hgcO)
    clear hgcc hgcf hg0;go_still_tail 14,(by kernel_rfl)
    still_call (Eu x _)
    repeat still_step
    still_call (Eu y _)
    repeat still_step
    refine wpStill_nil ?_;change wpList _ _ _ _ _ W3.drew;go_wp2_with fail
    have HP4:=Aa (HP1.out.go HOS.out (((Fr.refl O2 W3).setCell (p:=⟨gc,k*2,none⟩) (.inl hgcO) (.int .i64 (k32 x))).setCell (p:=⟨gc,k*2+1,none⟩) (.inl hgcO) (.int .i64 (k32 y))).drew (HP1.out.ma.layCu HCU.out (i:=k) (by simp only[pst];rw[Cs];omega) (Db x) (Db y)).drew);have HCF:Hid (cF z k=(k32 x,k32 y)):=Aa (by unfold cF;rw[Bs HXY.out];rfl);clear HP1 HPB p0 p1 c3 r0 r1 f0 f1 hlm3 hgcl3;generalize (((W3.setCell ⟨gc,k*2,none⟩ (.int .i64 (k32 x))).setCell ⟨gc,k*2+1,none⟩ (.int .i64 (k32 y))).drew)=W4 at *;obtain⟨hl4,r4,s4,_,_,c4⟩:=HP4.out.ma.cuAt HCU.out (i:=k) (p:=(k32 x,k32 y)) (by simp only[pst];rw[List.getElem?_set_self (by rw[Cs];omega)]);obtain⟨hl5,r5,s5,f5,f6,c5⟩:=HP4.out.ma.ogAt HOG.out (i:=k) (p:=(0,0)) (by simp only[pst];rw[Gi (by omega),if_neg (by omega)]);dsimp only at r4 s4 r5 s5;have hlm4:=HP4.out.ma.blk.lt;go_region;have HP5:=Aa (HP4.out.go HOS.out (((Fr.refl O2 W4).setCell (p:=⟨go,k*2,none⟩) (.inl hgoO) (.int .i64 (k32 x))).setCell (p:=⟨go,k*2+1,none⟩) (.inl hgoO) (.int .i64 (k32 y))).drew (HP4.out.ma.layOg HOG.out (i:=k) (by simp only[pst];rw[Cs];omega) (Db x) (Db y)).drew);clear HP4 r4 s4 c4 r5 s5 f5 f6 c5 hl4 hl5 hlm4;generalize (((W4.setCell ⟨go,k*2,none⟩ (.int .i64 (k32 x))).setCell ⟨go,k*2+1,none⟩ (.int .i64 (k32 y))).drew)=W5 at *;have y0:=Ab HP5.out.zb 0 rfl;have zl0:=HP5.out.zb.lt;by_cases hol:(k:Int)<z.org.length
    ·obtain⟨⟨x',y'⟩,hxy'⟩:∃ p,z.org[k]?=some p:=⟨_,List.getElem?_eq_getElem (by omega)⟩;obtain⟨ob,oo,hoA,hob,hocc⟩:=HP5.out.za.org.at_ (by omega);subst hoA;have x4:=hocc _ _ (Dk hxy').1;have x5:=hocc _ _ (Dk hxy').2;rw[Nat.mul_comm 2] at x4 x5;rw[←Nat.add_assoc] at x5;dsimp only at x4 x5;have hobl:ob<W5.heap.size:=by have:=HP5.out.fr.size;omega
     obtain⟨hl6,r6,s6,f6,g6,c6⟩:=HP5.out.ma.ogAt HOG.out (i:=k) (p:=(k32 x,k32 y)) (by simp only[pst];rw[List.getElem?_set_self (by rw[Cs];omega)]);dsimp only at r6 s6;have hlm5:=HP5.out.ma.blk.lt;have HP6:=Aa (HP5.out.go HOS.out (((Fr.refl O2 W5).setCell (p:=⟨go,k*2,none⟩) (.inl hgoO) (.int .i64 (k32 x'))).setCell (p:=⟨go,k*2+1,none⟩) (.inl hgoO) (.int .i64 (k32 y'))).drew (HP5.out.ma.layOg HOG.out (i:=k) (by simp only[pst,List.length_set];rw[Cs];omega) (Db x') (Db y')).drew);have HOF:Hid (oF z k=(k32 x',k32 y')):=Aa (by unfold oF;rw[hxy'];rfl);clear hocc hxy' HP5;go_wp2_with fail
     go_still_tail 22,(by kernel_rfl)
     still_call (Eu x' _)
     repeat still_step
     still_call (Eu y' _)
     repeat still_step
     refine wpStill_nil ?_;change wpList _ _ _ _ _ W5.drew;go_upto_region 10 with fail
     clear y0 zl0 x4 x5 hobl hl6 r6 s6 f6 g6 c6 hlm5;generalize (((W5.setCell ⟨go,k*2,none⟩ (.int .i64 (k32 x'))).setCell ⟨go,k*2+1,none⟩ (.int .i64 (k32 y'))).drew)=W6 at *;have HP8:Hid (Pi w mb O O2 L2 z B (some ⟨ob,oo,none⟩) oc (some ⟨cb,co,none⟩) cc tA tc eA ec { pst s z k with org:=mk z.cur.length (k+1) (oF z) (0,0),cur:=mk z.cur.length (k+1) (cF z) (0,0) } W6):=Aa (by
      have:=HP6.out;simp only[pst] at this ⊢;rw[List.set_set,←HOF.out,←HCF.out,Hx (by omega),Hx (by omega)] at this;exact this)
     clear HP6;have y2:=Ab HP8.out.zb 2 rfl;have zl2:=HP8.out.zb.lt;by_cases htl:(k:Int)<z.touch.length
     ·obtain⟨tt,htt⟩:∃ t,z.touch[k]?=some t:=⟨_,List.getElem?_eq_getElem (by omega)⟩;obtain⟨tb,tof,htA,htb,htc⟩:=HP8.out.za.touch.at_ (by omega);subst htA;have x3:=htc _ _ (Bf htt);have htbl:tb<W6.heap.size:=by have:=HP8.out.fr.size;omega
      obtain⟨hl7,r7,f7,c7⟩:=HP8.out.ma.toAt HTO.out (i:=k) (p:=0) (by simp only[pst];rw[Gi (by omega),if_neg (by omega)]);have hlm7:=HP8.out.ma.blk.lt;have HP7:=Aa (HP8.out.go HOS.out (((Fr.refl O2 W6).setCell (p:=⟨gt,k,none⟩) (.inl hgtO) (.int .i64 (tt % 4))).drew) (HP8.out.ma.setTo HTO.out (i:=k) (by simp only[pst];rw[Cs];omega) (t:=tt % 4) (by omega)).drew);have HTF:Hid (tF z k=tt % 4):=Aa (by unfold tF;rw[Bs htt]);have HPE:Hid (Pi w mb O O2 L2 z B (some ⟨ob,oo,none⟩) oc (some ⟨cb,co,none⟩) cc (some ⟨tb,tof,none⟩) tc eA ec (pst s z (k+1)) ((W6.setCell ⟨gt,k,none⟩ (.int .i64 (tt % 4))).drew)):=Aa (by
       have:=HP7.out;simp only[pst] at this ⊢;rw[←HTF.out,Hx (by omega)] at this;rw[←HTF.out];exact this)
      have hba:=Oc tt;clear htc htt HP7 HP8;go_wp2_with fail
      go_region;go_wp2_with fail
      go_roundw
      case rel=>exact⟨k+1,by omega,by go_num,HPE.out⟩
      case measure=>simp[intOf];omega
     ·have HTF:Hid (mk z.cur.length k (tF z) 0=mk z.cur.length (k+1) (tF z) 0):=Aa (Wo fun _=>by unfold tF;rw[List.getD_eq_getElem?_getD,List.getElem?_eq_none (by omega)];rfl);have HPE:Hid (Pi w mb O O2 L2 z B (some ⟨ob,oo,none⟩) oc (some ⟨cb,co,none⟩) cc tA tc eA ec (pst s z (k+1)) W6):=Aa (by
       have:=HP8.out;simp only[pst] at this ⊢;rw[HTF.out] at this;exact this)
      clear HP8;go_wp2_with fail
      go_roundw
      case rel=>exact⟨k+1,by omega,by go_num,HPE.out⟩
      case measure=>simp[intOf];omega
    ·have HOF:Hid (oF z k=(k32 x,k32 y)):=Aa (by unfold oF;rw[List.getElem?_eq_none (by omega),Option.getD_none];exact HCF.out);have HP8:Hid (Pi w mb O O2 L2 z B oA oc (some ⟨cb,co,none⟩) cc tA tc eA ec { pst s z k with org:=mk z.cur.length (k+1) (oF z) (0,0),cur:=mk z.cur.length (k+1) (cF z) (0,0) } W5):=Aa (by
      have:=HP5.out;simp only[pst] at this ⊢;rw[←HOF.out,Hx (by omega),HOF.out,←HCF.out,Hx (by omega)] at this;exact this)
     clear HP5;have y2:=Ab HP8.out.zb 2 rfl;have zl2:=HP8.out.zb.lt;by_cases htl:(k:Int)<z.touch.length
     ·obtain⟨tt,htt⟩:∃ t,z.touch[k]?=some t:=⟨_,List.getElem?_eq_getElem (by omega)⟩;obtain⟨tb,tof,htA,htb,htc⟩:=HP8.out.za.touch.at_ (by omega);subst htA;have x3:=htc _ _ (Bf htt);have htbl:tb<W5.heap.size:=by have:=HP8.out.fr.size;omega
      obtain⟨hl7,r7,f7,c7⟩:=HP8.out.ma.toAt HTO.out (i:=k) (p:=0) (by simp only[pst];rw[Gi (by omega),if_neg (by omega)]);have hlm7:=HP8.out.ma.blk.lt;have HP7:=Aa (HP8.out.go HOS.out (((Fr.refl O2 W5).setCell (p:=⟨gt,k,none⟩) (.inl hgtO) (.int .i64 (tt % 4))).drew) (HP8.out.ma.setTo HTO.out (i:=k) (by simp only[pst];rw[Cs];omega) (t:=tt % 4) (by omega)).drew);have HTF:Hid (tF z k=tt % 4):=Aa (by unfold tF;rw[Bs htt]);have HPE:Hid (Pi w mb O O2 L2 z B oA oc (some ⟨cb,co,none⟩) cc (some ⟨tb,tof,none⟩) tc eA ec (pst s z (k+1)) ((W5.setCell ⟨gt,k,none⟩ (.int .i64 (tt % 4))).drew)):=Aa (by
       have:=HP7.out;simp only[pst] at this ⊢;rw[←HTF.out,Hx (by omega)] at this;rw[←HTF.out];exact this)
      have hba:=Oc tt;clear htc htt HP7 HP8;go_wp2_with fail
      go_region;go_wp2_with fail
      go_roundw
      case rel=>exact⟨k+1,by omega,by go_num,HPE.out⟩
      case measure=>simp[intOf];omega
     ·have HTF:Hid (mk z.cur.length k (tF z) 0=mk z.cur.length (k+1) (tF z) 0):=Aa (Wo fun _=>by unfold tF;rw[List.getD_eq_getElem?_getD,List.getElem?_eq_none (by omega)];rfl);have HPE:Hid (Pi w mb O O2 L2 z B oA oc (some ⟨cb,co,none⟩) cc tA tc eA ec (pst s z (k+1)) W5):=Aa (by
       have:=HP8.out;simp only[pst] at this ⊢;rw[HTF.out] at this;exact this)
      clear HP8;go_wp2_with fail
      go_roundw
      case rel=>exact⟨k+1,by omega,by go_num,HPE.out⟩
      case measure=>simp[intOf];omega
   ·have hke:k=z.cur.length:=by omega
    subst hke;have y3:=Ab hp.zb 3 rfl;have zl3:=hp.zb.lt;have hc0:(pst s z z.cur.length).cont=[]:=HCN.out;have HC0:Hid (CInv w mb O s z B oA oc cA cc tA tc eA ec (.int .i64 (-1)) (.int .i64 0) wr):=Aa ⟨0,-1,O2,L2,[],Nat.zero_le _,rfl,rfl,by omega,by omega,HOS.out,by
     have:pst s z z.cur.length = { pst s z z.cur.length with cont:=[] } := by rw[←hc0]
     rw[←this];exact hp,by simp,Ad⟩
    clear hp hc0 HOS;go_wp2_with fail
    clear y3 zl3;go_loopw [7,112] (fun la i wr=>CInv w mb O s z B oA oc cA cc tA tc eA ec la i wr) (fun _ i _=>z.ends.length-(intOf i).toNat)
    case atStart=>exact HC0.out
    case round =>
     clear HC0;obtain⟨j,la,O3,L3,cs,hj,rfl,rfl,hla1,hla2,hos,hp,hcs,hcl⟩:=hrel;by_cases hjl:(j:Int)<z.ends.length
     ·obtain⟨e,he⟩:∃ e,z.ends[j]?=some e:=⟨_,List.getElem?_eq_getElem (by omega)⟩;obtain⟨eb,eo,heA,heb,hec⟩:=hp.za.ends.at_ (by omega);subst heA;have x6:=hec _ _ (Bf he);have hebl:eb<wr.heap.size:=by have:=hp.fr.size;omega
      have hdr:z.ends.drop j=e::z.ends.drop (j+1):=by rw[List.drop_eq_getElem_cons (by omega)];congr 1;have:=List.getElem?_eq_getElem (l:=z.ends) (i:=j) (by omega);rw[this] at he;exact Option.some.inj he
      rw[hdr,Mc.conts] at hcs;by_cases hge:la<e∧e<(z.cur.length:Int)
      ·obtain⟨hg1,hg2⟩:=hge;rw[if_pos ⟨hg1,hg2⟩] at hcs;obtain⟨Ac,kc,hco,_,_⟩:=hp.ma.co.form;have c6:=hp.ma.blk.cell 6;rw[hp.ma.c.c6,hco] at c6;have hlm:=hp.ma.blk.lt;have HMA:=Aa (hp.ma.alloc (.cells #[.int .i64 (la+1),.int .i64 e] 252));have HPA:=Aa (hp.alloc hos (.cells #[.int .i64 (la+1),.int .i64 e] 252));have HCO:=Aa hco;have HOS3:=Aa hos;have HCS:=Aa hcs;have hOW:(wr.alloc (.cells #[.int .i64 (la+1),.int .i64 e] 252)).ownsRow 0 252 2 (.slice Ac cs.length kc) cs.length (cts cs):=by
        have:=HMA.out.co.1;rw[hco] at this;exact this
       have HOW:=Aa hOW;have HRB:=Aa (Reads.blk (cs:=[.int .i64 (la+1),.int .i64 e]) (Blk.new wr 252 #[.int .i64 (la+1),.int .i64 e]) 2 1 rfl);have hw1:IntKind.i64.wrap (la+1)=la+1:=by rw[IntWalk.i64_in _ (by omega)]
       obtain⟨i0,hi0,hi1,hi2,hi3⟩:=Dc Xh;clear hp hec he hdr hco hOW hos hcs;go_wp2_with (at_builtin;refine Br _ rfl (.tmp 128) (.tmp 133) _ rfl 0 252 i0 _ 2 16 Tryz.underlying209 hi0 hi1 hi2 hi3 rfl (show 0<2 by decide) (.slice Ac cs.length kc) cs.length (cts cs) rfl HOW.out _ _ 1 1 [.int .i64 (la+1),.int .i64 e] rfl HRB.out (by simp[Value.oneCell']) (by unfold maxLen;omega) (by omega) (Nat.zero_le _) ?_;intro v' w1 ho1 hg1' hnb;obtain⟨⟨⟨u6,k6⟩,f6,l6⟩,⟨L4,hm4⟩,hf4⟩:=HMA.out.tour HCO.out (la:=la) (e:=e) hla1 hg1 (by simp only[pst];rw[Cs];exact hg2) (by simp only;omega) ho1 hg1' hnb;have HM4:=Aa hm4;have HF4:=Aa hf4;obtain⟨Av,cv,hve,_,_⟩:=Ae ho1;clear hm4 hf4 ho1 hg1' hnb;subst hve)
       have HCE:Hid (CInv w mb O s z B oA oc cA cc tA tc (some ⟨eb,eo,none⟩) ec (.int .i64 e) (.int .i64 ((j:Int)+1)) (w1.setCell ⟨mb,6,none⟩ (.slice Av (cs.length+1) cv))):=Aa (by
        have hzl:=HPA.out.zb.lt;refine⟨j+1,e,_,L4,cs++[((la+1).toNat,e.toNat)],by omega,by simp,rfl,by omega,by omega,⟨fun k hk=>.inl (HOS3.out.up k hk),fun k hk=>?_,HOS3.out.no,HOS3.out.bo,HOS3.out.bw⟩,HPA.out.go HOS3.out HF4.out HM4.out,by rw[List.append_assoc];exact HCS.out,by simp;omega⟩;rcases hk with hk|hk
        ·exact HOS3.out.dn k hk
        ·exact .inr (by omega))
       refine⟨HCE.out,by simp[intOf];omega⟩
      ·rw[if_neg hge] at hcs;have HCE:Hid (CInv w mb O s z B oA oc cA cc tA tc (some ⟨eb,eo,none⟩) ec (.int .i64 la) (.int .i64 ((j:Int)+1)) wr):=Aa ⟨j+1,la,O3,L3,cs,by omega,by simp,rfl,hla1,hla2,hos,hp,hcs,by omega⟩;clear hp hec he hdr hos hcs;by_cases hg1:la<e
       ·have hg2:¬ e<(z.cur.length:Int):=fun h=>hge ⟨hg1,h⟩
        go_wp2_with fail
        refine⟨HCE.out,by simp[intOf];omega⟩
       ·go_wp2_with fail
        refine⟨HCE.out,by simp[intOf];omega⟩
     ·have hje:j=z.ends.length:=by omega
      subst hje;have HE:Hid (MPost w mb O { s with org:=(List.range z.cur.length).map (oF z),cur:=z.cur.map Mc.k2,touch:=(List.range z.cur.length).map (tF z),ends:=z.ends,cont:=conts z.cur.length (-1) z.ends } (.returned (.tuple #[])) wr):=Aa (by
       refine⟨rfl,⟨L3,?_⟩,hp.fr⟩;have hm:=hp.ma.mono (O':=ext O w wr) (fun k hk=>by
        rcases hos.dn k hk with h|h
        ·exact .inl h
        ·exact .inr ⟨by omega,hp.ma.olt k hk⟩) (fun k hk=>by
        rcases hk with hk|hk
        ·exact hp.ma.olt k (hos.up k hk)
        ·exact hk.2)
       simp only[pst,Pk,Zae] at hm;rw[List.drop_length,Mc.conts,List.append_nil] at hcs;rw[hcs] at hm;exact hm)
      clear hp hos hcs;go_wp2;go_end0;exact HE.out
end Go.Proofs.YtnhebmgibiomnaaGreat

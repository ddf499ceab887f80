/- Parts of the proof, joined: ZBase. -/
import Derived.BigQuiet
import Derived.Conc.MuLone
import Derived.Deep.QuietTactic
import Derived.IntWalk
import Derived.Lib.SliceRun
import Derived.LoopN
import Derived.Test.YtnhebmgibiomnaaGreatProg
import Derived.Test.YtnhebmgibiomnaaGreatPb0
import Derived.Test.YtnhebmgibiomnaaGreatPb3
set_option linter.unusedVariables false
set_option linter.unusedSimpArgs false
set_option maxRecDepth 100000
set_option maxHeartbeats 8000000
namespace Go.Proofs.YtnhebmgibiomnaaGreat
open Go.RowKit
theorem Lv (n:Int):RowKit.wrap64 (RowKit.wrap32 n)=Mc.k32 n:=by
 rw[IntWalk.wrap64_in _ (by unfold RowKit.wrap32;omega)];unfold RowKit.wrap32 Mc.k32;rfl
theorem Ed (n:Int):RowKit.wrap64 n=Mc.w64 n:=by
 unfold RowKit.wrap64 Mc.w64;rfl
theorem Bi {a b:Int} (h:a=b):Ending.returned (.int .i64 a)=.returned (.int .i64 b):=by rw[h]
theorem Mm (n d:Int) (hd:0<d):n % d=if n.tmod d<0 then n.tmod d+d else n.tmod d:=by
 have h1:=Int.tmod_eq_emod (a:=n) (b:=d);have h2:=Int.emod_nonneg n (show d≠0 by omega);have h3:=Int.emod_lt_of_pos n hd;by_cases h:0≤n∨d ∣ n
 ·rw[if_pos h] at h1;rw[if_neg (by omega)];omega
 ·rw[if_neg h,Int.natAbs_of_nonneg (by omega)] at h1;have h4:n % d≠0:=fun e=>h (.inr (Int.dvd_of_emod_eq_zero e))
  rw[if_pos (by omega)];omega
theorem Nr (a b:Int) (hb:b≠0):a.fdiv b=if a.tmod b≠0∧(decide (a<0)≠decide (b<0)) then a.tdiv b-1 else a.tdiv b:=by
 have h1:=Int.fdiv_eq_ediv (a:=a) (b:=b);have h2:=Int.tdiv_eq_ediv (a:=a) (b:=b);have h3:=Int.dvd_iff_tmod_eq_zero (a:=b) (b:=a);by_cases hd:b ∣ a
 ·rw[if_pos (.inr hd)] at h1 h2;rw[if_neg (fun h=>h.1 (h3.1 hd))];omega
 ·have h4:a.tmod b≠0:=fun e=>hd (h3.2 e)
  have ha:a≠0:=fun e=>hd (by rw[e];exact Int.dvd_zero _)
  rcases Int.lt_or_gt_of_ne hb with hb|hb
  ·have hs:b.sign = -1:=Int.sign_eq_neg_one_of_neg hb;rw[if_neg (by simp[hd];omega)] at h1;by_cases h0:0≤a
   ·rw[if_pos (.inl h0)] at h2;rw[if_pos ⟨h4,by simp;omega⟩];omega
   ·rw[if_neg (by simp[hd];omega)] at h2;rw[if_neg (by simp;omega)];omega
  ·have hs:b.sign=1:=Int.sign_eq_one_of_pos hb;rw[if_pos (.inl (by omega))] at h1;by_cases h0:0≤a
   ·rw[if_pos (.inl h0)] at h2;rw[if_neg (by simp;omega)];omega
   ·rw[if_neg (by simp[hd];omega)] at h2;rw[if_pos ⟨h4,by simp;omega⟩];omega
theorem Um (a:Int):RowKit.wrap64 (RowKit.wrap64 a-1)=Mc.w64 (a-1):=by
 unfold RowKit.wrap64 Mc.w64;omega
namespace Mc
def K32 (n:Int):Prop:=-2147483648≤n∧n≤2147483647
theorem Db (n:Int):K32 (k32 n):=by unfold K32 k32;omega
structure Ok (s:St):Prop where
 stack:∀ x∈s.stack,K32 x
 slen:s.stack.length≤32
 cvt:∀ x∈s.cvt,K32 x
 store:∀ x∈s.store,K32 x
 stl:s.store.length=32
 cur:∀ p∈s.cur,K32 p.1∧K32 p.2
 org:∀ p∈s.org,K32 p.1∧K32 p.2
 orgl:s.org.length=s.cur.length
 touch:∀ t∈s.touch,0≤t∧t≤3
 tl:s.touch.length=s.cur.length
 size:K32 s.size
 look:0≤s.look∧s.look≤1
 move:0≤s.move∧s.move≤1
 mode:0≤s.mode∧s.mode≤5
 peak:s.peak≤32
 frames:∀ f∈s.frames,f.next≤f.code.length∧f.more≤15∧f.code.length≤1000000
 flen:s.frames.length≤21
 funcs:∀ c∈s.funcs,c.length≤1000000
 fnl:s.funcs.length≤1000000
 cont:∀ c∈s.cont,c.1≤c.2∧c.2<s.cur.length
 contl:s.cont.length≤1000000
 curl:s.cur.length≤1000000
 cvl:s.cvt.length≤1000000
 endl:s.ends.length≤1000000
end Mc
open Mc
def ints (l:List Int):List Value:=l.map (Value.int .i64)
def pts (l:List (Int×Int)):List Value:=l.flatMap fun p=>[.int .i64 p.1,.int .i64 p.2]
def cts (l:List (Nat×Nat)):List Value:=l.flatMap fun p=>[.int .i64 p.1,.int .i64 p.2]
theorem Bw (l:List Int):(ints l).length=l.length:=by simp[ints]
theorem Fj (l:List (Int×Int)):(pts l).length=l.length*2:=by
 induction l with
 | nil=>rfl
 | cons a r ih=>simp only[pts,List.flatMap_cons,List.length_append,List.length_cons,List.length_nil] at *;omega
def Row (w:World) (O:Nat→Prop) (t:TypeId) (size:Nat) (v:Value) (n:Nat) (xs:List Value):Prop :=
 w.ownsRow 0 t size v n xs∧∀ g,v.ownBlock=some g→O g
def Apart (a b:Value):Prop:=∀ g,a.ownBlock=some g→b.ownBlock≠some g
theorem Apart.symm {a b:Value} (h:Apart a b):Apart b a:=fun g h1 h2=>h g h2 h1
section
variable {w w' : World} {O O' : Nat → Prop} {t t' : TypeId} {size size' : Nat} {v v' : Value} {n n' : Nat} {xs xs' : List Value}
theorem Row.keep (h:Row w O t size v n xs) (hk:∀ g,v.ownBlock=some g→w'.heap[g]?=w.heap[g]?) (hO:∀ k,O k→O' k):Row w' O' t size v n xs:=by
 refine⟨⟨h.1.1,?_⟩,fun g hg=>hO g (h.2 g hg)⟩;rcases h.1.2 with h1|⟨g,cap,cur,hv,hg,hh,hr⟩
 ·exact .inl h1
 ·exact .inr ⟨g,cap,cur,hv,hg,(hk g (by rw[hv];rfl)).trans hh,hr⟩
theorem Row.block (h:Row w O t size v n xs) {g:Nat} (hg:v.ownBlock=some g):O g∧g<w.heap.size∧∃ cs,Blk w g t cs:=by
 refine⟨h.2 g hg,(h.1.lt g hg).2,?_⟩;rcases h.1.2 with⟨rfl,_⟩|⟨g',cap,cur,rfl,_,hh,_⟩
 ·simp[Value.ownBlock] at hg
 ·simp only[Value.ownBlock,Option.some.injEq] at hg;subst hg;exact⟨cur,hh⟩
theorem Row.apart (h:Row w O t size v n xs) (h':Row w O' t' size' v' n' xs') (hne:t≠t'):Apart v v':=by
 intro g h1 h2;obtain⟨_,_,cs,hb⟩:=h.block h1;obtain⟨_,_,cs',hb'⟩:=h'.block h2;exact hb.ne_ hb' hne rfl
theorem Row.ne_blk (h:Row w O t size v n xs) {b:Nat} {cs:Array Value} (hb:Blk w b t' cs) (hne:t≠t') {g:Nat} (hg:v.ownBlock=some g):g≠b:=by
 obtain⟨_,_,cs',hb'⟩:=h.block hg;exact hb'.ne_ hb hne
theorem Row.form (h:Row w O t size v n xs):∃ A c,v=.slice A n c∧n≤c∧c≤maxLen:=by
 rcases h.1.2 with⟨rfl,rfl⟩|⟨g',cap,cur,rfl,_,hh,h1,h2,_⟩
 ·exact⟨none,0,rfl,Ad,Nat.zero_le _⟩
 ·exact⟨_,cap,rfl,h1,h2⟩
theorem Row.at_ (h:Row w O t size v n xs) (hn:0<n):∃ g c,v=.slice (some ⟨g,0,none⟩) n c∧n≤c∧c≤maxLen∧O g∧g<w.heap.size∧(∀ j u,xs[j]?=some u→w.cell? ⟨g,j,none⟩=some u)∧∀ j,w.frozen? ⟨g,j,none⟩=false:=by
 rcases h.1.2 with⟨_,h0⟩|⟨g,cap,cur,rfl,_,hh,h1,h2,h3,h4⟩
 ·omega
 ·have hb:Blk w g t cur:=hh;refine⟨g,cap,rfl,h1,h2,h.2 g rfl,hb.lt,fun j u hu=>?_,fun j=>hb.frozen j⟩;rw[hb.cell,←h4] at *;rw[List.getElem?_take] at hu;split at hu
  ·simpa using hu
  ·cases hu
theorem Row.take (h:Row w O t size v n xs) {m:Nat} (hm:m≤n) {A:Option Addr} {c:Nat} (hv:v=.slice A n c):Row w O t size (.slice A m c) m (xs.take (m*size)):=by
 subst hv;refine⟨⟨?_,?_⟩,fun g hg=>h.2 g (by cases A <;> exact hg)⟩
 ·rw[List.length_take,h.1.1];exact Nat.min_eq_left (Nat.mul_le_mul_right _ hm)
 ·rcases h.1.2 with⟨h1,h0⟩|⟨g,cap,cur,h0,hg,hh,h1,h2,h3,h4⟩
  ·injection h1 with h1 h2 h3
   subst h1 h3;exact .inl ⟨by rw[show m=0 by omega],by omega⟩
  ·injection h0 with h5 h6 h7
   subst h5 h7;refine .inr ⟨g,c,cur,rfl,hg,hh,by omega,h2,h3,?_⟩;rw[←h4,List.take_take,Nat.min_eq_left (Nat.mul_le_mul_right _ hm)]
theorem Row.set_ (h:Row w O t size v n xs) {g:Nat} (hg:v.ownBlock=some g) {j:Nat} (_hj:j<xs.length) (u:Value):Row (w.setCell ⟨g,j,none⟩ u) O t size v n (xs.set j u):=by
 refine⟨⟨by rw[List.length_set];exact h.1.1,?_⟩,h.2⟩;rcases h.1.2 with⟨rfl,_⟩|⟨g',cap,cur,rfl,hg',hh,h1,h2,h3,h4⟩
 ·simp[Value.ownBlock] at hg
 ·simp only[Value.ownBlock,Option.some.injEq] at hg;subst hg;have hb:Blk w g' t cur:=hh;refine .inr ⟨g',cap,cur.setIfInBounds j u,rfl,hg',hb.set_ j u,h1,h2,by rw[Array.size_setIfInBounds];exact h3,?_⟩;rw[Array.toList_setIfInBounds,List.take_set,h4]
end
theorem Dc {P:Program} {t:TypeId} {z:Value} {n b:Nat} (h:(P.info? t).map (fun i=>(i.zero,i.size,i.bytes))=some (some z,n,b)):∃ i,P.info? t=some i∧i.zero=some z∧i.size=n∧i.bytes=b:=by
 cases hi:P.info? t with
 | none=>rw[hi] at h;cases h
 | some i =>
  rw[hi] at h;simp only[Option.map_some,Option.some.injEq,Prod.mk.injEq] at h;exact⟨i,rfl,h.1,h.2.1,h.2.2⟩
theorem Gb:(Tryz.prog.info? 3).map (fun i=>(i.zero,i.size,i.bytes))=some (some (.int .i64 0),1,8):=by kernel_rfl
theorem Reads.blk {w:World} {g:Nat} {t:TypeId} {cs:List Value} (h:Blk w g t cs.toArray) (size n:Nat) (hl:cs.length=n*size):Reads w w.heap.size size (some ⟨g,0,none⟩) n cs :=
 ⟨hl,fun _=>⟨g,0,rfl,h.lt,fun j u hu=>by rw[Nat.zero_add,h.cell];simpa using hu⟩⟩
abbrev Grow (w w':World):Prop:=Fr (fun _=>False) w w'
theorem Grow.below {w w':World} {B:Nat} (h:Grow w w') (hB:B≤w.heap.size):Below B w w':=Fr.below h hB fun _ _ x=>x
theorem Bc {w w':World} {base size n:Nat} {t:TypeId} {v:Value} {xs:List Value} (h:w.ownsRow base t size v n xs) (hg:Grow w w'):w'.ownsRow base t size v n xs:=by
 refine⟨h.1,?_⟩;rcases h.2 with h1|⟨g,cap,cur,hv,hb,hh,hr⟩
 ·exact .inl h1
 ·exact .inr ⟨g,cap,cur,hv,hb,(hg.block g (Array.getElem?_eq_some_iff.1 hh).1 (fun x=>x)).trans hh,hr⟩
theorem Bj {w:World} {base base' size n:Nat} {t:TypeId} {v:Value} {xs:List Value} (h:w.ownsRow base t size v n xs) (hb:base'≤base):w.ownsRow base' t size v n xs:=by
 refine⟨h.1,?_⟩;rcases h.2 with h1|⟨g,cap,cur,hv,hle,hr⟩
 ·exact .inl h1
 ·exact .inr ⟨g,cap,cur,hv,by omega,hr⟩
theorem Di (w:World) (base size:Nat) (t:TypeId):w.ownsRow base t size (.slice none 0 0) 0 []:=⟨by simp,.inl ⟨rfl,rfl⟩⟩
theorem Hl {w:World} {base size g:Nat} {t:TypeId} (hb:Blk w g t #[]) (hg:base≤g):w.ownsRow base t size (.slice (some ⟨g,0,none⟩) 0 0) 0 [] :=
 ⟨by simp,.inr ⟨g,0,#[],rfl,hg,hb,Ad,by unfold maxLen;omega,by simp,by simp⟩⟩
def Yv (w:World) (t:TypeId) (size n:Nat) (xs:List Value) (e:Ending) (w':World):Prop:=∃ v,e=.returned v∧w'.ownsRow w.heap.size t size v n xs∧Grow w w'
theorem Ds {w w1 w':World} {r:Option Nat} (h1:Grow w w1) (hg:w1.grownBy w' r) (h:∀ g,r=some g→w.heap.size≤g):Grow w w' :=
 ⟨hg.os.trans h1.os,hg.tape.trans h1.tape,hg.output.trans h1.output,Nat.le_trans h1.size hg.size,fun k hk hs=>(hg.block k (Nat.lt_of_lt_of_le hk h1.size) (fun e=>by have:=h k e.symm;omega)).trans (h1.block k hk hs)⟩
theorem Xf:(Tryz.prog.info? 76).map (fun i=>(i.zero,i.size,i.bytes))=some (some (.agg #[.int .i64 0,.int .i64 0]),2,16):=by kernel_rfl
theorem Zba:(Tryz.prog.info? 96).map (fun i=>(i.zero,i.size,i.bytes))=some (some (.agg #[.int .i64 0,.int .i64 0]),2,16):=by kernel_rfl
theorem Fl {l:List Int} {P:Int→Prop} (h:∀ x∈l,P x) {i:Nat} {v:Int} (hv:P v):∀ x∈l.set i v,P x:=fun x hx=>by
 rcases List.mem_or_eq_of_mem_set hx with hx|rfl
 ·exact h x hx
 ·exact hv
theorem Dr (l:List Int) (i:Nat) (v:Int):ints (l.set i v)=(ints l).set i (.int .i64 v):=by simp[ints,List.map_set]
theorem Bf {l:List Int} {i:Nat} {v:Int} (h:l[i]?=some v):(ints l)[i]?=some (.int .i64 v):=by simp[ints,h]
theorem Dk:∀ {l:List (Int×Int)} {i:Nat} {v:Int×Int},l[i]?=some v→(pts l)[2*i]?=some (.int .i64 v.1)∧(pts l)[2*i+1]?=some (.int .i64 v.2)
 | a::l,0,v,h=>by
  simp only[List.getElem?_cons_zero,Option.some.injEq] at h;subst h;exact⟨rfl,rfl⟩
 | a::l,i+1,v,h=>by
  have:=Dk (l:=l) (i:=i) (v:=v) h;rw[show 2*(i+1)=2*i+2 by omega];exact this
 | [],i,v,h=>by simp at h
theorem at_no {l:List Int} {x:Int} (h:¬ (0≤x∧x<l.length)):at_ l x=0:=by unfold at_;rw[if_neg h]
theorem Zce {l:List Int} {i:Nat} {v:Int} (h:l[i]?=some v):at_ l i=v:=by
 have:=(List.getElem?_eq_some_iff.1 h).1;unfold at_;rw[if_pos (by omega),Int.toNat_natCast,List.getD_eq_getElem?_getD,h];rfl
theorem Qu {l:List Int} {x v:Int} (h:¬ (0≤x∧x<l.length)):Fz l x v=l:=by unfold Fz;rw[if_neg h]
theorem Lo {l:List Int} {i:Nat} {v:Int} (h:i<l.length):Fz l i v=l.set i v:=by
 unfold Fz;rw[if_pos (by omega),Int.toNat_natCast]
theorem Bs {α:Type} {l:List α} {i:Nat} {x d:α} (h:l[i]?=some x):l.getD i d=x:=by rw[List.getD_eq_getElem?_getD,h];rfl
def mk {α:Type} (n i:Nat) (F:Nat→α) (z:α):List α:=(List.range n).map fun j=>if j<i then F j else z
theorem Cs {α:Type} (n i:Nat) (F:Nat→α) (z:α):(mk n i F z).length=n:=by simp[mk]
theorem Gi {α:Type} {n i:Nat} {F:Nat→α} {z:α} {j:Nat} (h:j<n):(mk n i F z)[j]?=some (if j<i then F j else z):=by
 unfold mk;rw[List.getElem?_map,List.getElem?_range h];rfl
theorem Hx {α:Type} {n i:Nat} {F:Nat→α} {z:α} (h:i<n):(mk n i F z).set i (F i)=mk n (i+1) F z:=by
 refine List.ext_getElem? fun j=>?_
 rw[List.getElem?_set];rcases Nat.lt_or_ge j n with hj|hj
 ·rw[Gi hj,Gi hj,Cs];by_cases hij:i=j
  ·subst hij;rw[if_pos rfl,if_pos h,if_pos (by omega)]
  ·rw[if_neg hij];by_cases h2:j<i
   ·rw[if_pos h2,if_pos (by omega)]
   ·rw[if_neg h2,if_neg (by omega)]
 ·rw[if_neg (by omega),List.getElem?_eq_none (by rw[Cs];omega),List.getElem?_eq_none (by rw[Cs];omega)]
theorem Jl {α:Type} (n:Nat) (F:Nat→α) (z:α):mk n 0 F z=List.replicate n z:=by
 refine List.ext_getElem? fun j=>?_
 rcases Nat.lt_or_ge j n with hj|hj
 ·rw[Gi hj,if_neg (by omega),List.getElem?_replicate,if_pos hj]
 ·rw[List.getElem?_eq_none (by rw[Cs];omega),List.getElem?_eq_none (by simpa using hj)]
theorem Pk {α:Type} (n:Nat) (F:Nat→α) (z:α):mk n n F z=(List.range n).map F:=by
 unfold mk;refine List.map_congr_left fun j hj=>?_
 rw[if_pos (List.mem_range.1 hj)]
theorem Wo {α:Type} {n i:Nat} {F:Nat→α} {z:α} (h:i<n→F i=z):mk n i F z=mk n (i+1) F z:=by
 refine List.ext_getElem? fun j=>?_
 rcases Nat.lt_or_ge j n with hj|hj
 ·rw[Gi hj,Gi hj];by_cases hij:j=i
  ·subst hij;rw[if_neg (by omega),if_pos (by omega),h hj]
  ·by_cases h2:j<i
   ·rw[if_pos h2,if_pos (by omega)]
   ·rw[if_neg h2,if_neg (by omega)]
 ·rw[List.getElem?_eq_none (by rw[Cs];omega),List.getElem?_eq_none (by rw[Cs];omega)]
def Mc.oF (z:Zn) (j:Nat):Int×Int:=k2 ((z.org[j]?).getD (z.cur.getD j (0,0)))
def Mc.cF (z:Zn) (j:Nat):Int×Int:=k2 (z.cur.getD j (0,0))
def Mc.tF (z:Zn) (j:Nat):Int:=(z.touch.getD j 0) % 4
theorem Zae (z:Zn):(List.range z.cur.length).map (cF z)=z.cur.map k2:=by
 refine List.ext_getElem? fun j=>?_
 rw[List.getElem?_map,List.getElem?_map];rcases Nat.lt_or_ge j z.cur.length with hj|hj
 ·rw[List.getElem?_range hj,List.getElem?_eq_getElem hj];simp only[Option.map_some,cF,List.getD_eq_getElem?_getD,List.getElem?_eq_getElem hj,Option.getD_some]
 ·rw[List.getElem?_eq_none (by simpa using hj),List.getElem?_eq_none hj];rfl
structure ZnAt (W:World) (B:Nat) (z:Zn) (oA:Option Addr) (cA:Option Addr) (tA:Option Addr) (eA:Option Addr):Prop where
 org:Reads W B 2 oA z.org.length (pts z.org)
 cur:Reads W B 2 cA z.cur.length (pts z.cur)
 touch:Reads W B 1 tA z.touch.length (ints z.touch)
 ends:Reads W B 1 eA z.ends.length (ints z.ends)
structure ZnOk (z:Zn):Prop where
 org:z.org.length≤1000000
 cur:z.cur.length≤1000000
 touch:z.touch.length≤1000000
 ends:z.ends.length≤1000000
theorem ZnAt.keep {W W':World} {B:Nat} {z:Zn} {oA cA tA eA:Option Addr} (h:ZnAt W B z oA cA tA eA) (hk:∀ p:Addr,p.block<B→W'.cell? p=W.cell? p):ZnAt W' B z oA cA tA eA :=
 ⟨h.org.keep hk,h.cur.keep hk,h.touch.keep hk,h.ends.keep hk⟩
theorem Reads.at_ {w:World} {B size:Nat} {A:Option Addr} {n:Nat} {xs:List Value} (h:Reads w B size A n xs) (hn:0<n):∃ b off,A=some ⟨b,off,none⟩∧b<B∧∀ j u,xs[j]?=some u→w.cell? ⟨b,off+j,none⟩=some u:=h.2 hn
theorem Oc (n:Int):bits .and .i64 n 3=n % 4:=by
 have h:(BitVec.ofInt 64 3).toNat=2 ^ 2-1:=by decide
 have key:(BitVec.ofInt 64 n &&& BitVec.ofInt 64 3).toNat=(n % ((2 ^ 64:Nat):Int)).toNat % 2 ^ 2:=by
  rw[BitVec.toNat_and,BitVec.toNat_ofInt,h,Nat.and_two_pow_sub_one_eq_mod]
 show IntKind.i64.wrap ((BitVec.ofInt 64 n &&& BitVec.ofInt 64 3).toNat:Nat)=n % 4
 rw[key,IntKind.wrap_i64];omega
theorem apart_nil {v:Value}:Apart (.slice none 0 0) v:=fun g h=>by simp[Value.ownBlock] at h
theorem Ez (l:List Int):∀ u∈ints l,u.oneCell'=true:=by
 intro u hu;obtain⟨x,_,rfl⟩:=List.mem_map.1 hu;rfl
theorem Lq (l:List (Int×Int)):∀ u∈pts l,u.oneCell'=true:=by
 intro u hu;obtain⟨x,_,hx⟩:=List.mem_flatMap.1 hu;simp only[List.mem_cons,List.not_mem_nil,or_false] at hx;rcases hx with rfl|rfl <;> rfl
theorem Ae {w:World} {base size n:Nat} {t:TypeId} {v:Value} {xs:List Value} (h:w.ownsRow base t size v n xs):∃ A c,v=.slice A n c∧n≤c∧c≤maxLen:=by
 rcases h.2 with⟨rfl,rfl⟩|⟨g,cap,cur,rfl,_,_,h1,h2,_⟩
 ·exact⟨none,0,rfl,Ad,Nat.zero_le _⟩
 ·exact⟨_,cap,rfl,h1,h2⟩
theorem Be {W:World} {base size n:Nat} {t:TypeId} {v:Value} {xs:List Value} (h:W.ownsRow base t size v n xs) {b:Nat} {t0:TypeId} {cs:Array Value} (hb:Blk W b t0 cs) (hne:t0≠t) (i:Nat) (u:Value):(W.setCell ⟨b,i,none⟩ u).ownsRow base t size v n xs:=by
 refine⟨h.1,?_⟩;rcases h.2 with h1|⟨g,cap,cur,hv,hle,hh,hr⟩
 ·exact .inl h1
 ·have hng:g≠b:=fun e=>hb.ne_ (show Blk W g t cur from hh) hne e.symm
  exact .inr ⟨g,cap,cur,hv,hle,(Below.heap_setCell _ _ _ _ hng).trans hh,hr⟩
theorem Bb {W:World} {base size n:Nat} {t:TypeId} {v:Value} {xs:List Value} (h:W.ownsRow base t size v n xs) (hn:0<n) :
  ∃ g c,v=.slice (some ⟨g,0,none⟩) n c∧n≤c∧base≤g∧g<W.heap.size∧∀ j u,xs[j]?=some u→W.cell? ⟨g,j,none⟩=some u:=by
 rcases h.2 with⟨_,h0⟩|⟨g,cap,cur,rfl,hg,hh,h1,h2,h3,h4⟩
 ·omega
 ·have hb:Blk W g t cur:=hh;refine⟨g,cap,rfl,h1,hg,hb.lt,fun j u hu=>?_⟩;rw[hb.cell];rw[←h4,List.getElem?_take] at hu;split at hu
  ·simpa using hu
  ·cases hu
theorem Zl {P:Program} (w:World) {ops:Array Oper} {o:Oper} {a:Act} {K:Act→World→Prop} {Q:Exit→Act→World→Prop} {E:Prop} (hgd:o.guard=none) (s x:Operand) (t:TypeId)
  (ho:o.op=.call { callee:=.builtin .append,args:=#[s,x],argTypes:=#[t,t] }) (base:Nat) (e:TypeId) (i:TypeInfo) (z:Value) (size bytes:Nat) (ht:P.underlying t=some (.slice e)) (hi:P.info? e=some i) (hz:i.zero=some z)
  (hsize:i.size=size) (hby:i.bytes=bytes) (hzs:z.cells.size=size) (hsz:0<size)
  (v:Value) (n:Nat) (xs:List Value) (hs:a.eval s=v) (hrow:w.ownsRow base e size v n xs)
  (B:Nat) (A:Option Addr) (m c:Nat) (news:List Value) (hx:a.eval x=.slice A m c) (hr:Reads w B size A m news) (h1:∀ u∈news,u.oneCell'=true)
  (h63:n+m≤maxLen) (hbytes:(n+m)*bytes≤140737488355328) (hbase:base≤w.heap.size)
  (h:∀ v' w',w'.ownsRow base e size v' (n+m) (xs++news)→w.grownBy w' v.ownBlock→(v'.ownBlock=v.ownBlock∨v'.ownBlock=some w.heap.size)→K (a.put o.dst v') w') :
  if Region.wanted o (yielded ops a.tmps)=true then Oper.wp P o a w K Q else E:=by
 have hw:Region.wanted o (yielded ops a.tmps)=true:=by simp[Region.wanted,hgd]
 rw[if_pos hw];exact Dm w s x t ho base e i z size bytes ht hi hz hsize hby hzs hsz v n xs hs hrow B A m c news hx hr h1 h63 hbytes hbase h
theorem Ag {w:World} {base size n g:Nat} {t:TypeId} {v:Value} {xs:List Value} (h:w.ownsRow base t size v n xs) (hg:v.ownBlock=some g):base≤g∧g<w.heap.size∧∃ cs,Blk w g t cs:=by
 rcases h.2 with⟨rfl,_⟩|⟨g',cap,cur,rfl,hb,hh,_⟩
 ·simp[Value.ownBlock] at hg
 ·simp only[Value.ownBlock,Option.some.injEq] at hg;subst hg;exact⟨hb,(Array.getElem?_eq_some_iff.1 hh).1,cur,hh⟩
theorem Bo {w w':World} {base size n:Nat} {t:TypeId} {v:Value} {xs:List Value} (h:w.ownsRow base t size v n xs) (k:∀ g,v.ownBlock=some g→w'.heap[g]?=w.heap[g]?):w'.ownsRow base t size v n xs:=by
 refine⟨h.1,?_⟩;rcases h.2 with h1|⟨g,cap,cur,hv,hb,hh,hr⟩
 ·exact .inl h1
 ·exact .inr ⟨g,cap,cur,hv,hb,(k g (by rw[hv];rfl)).trans hh,hr⟩
theorem Fk {w w':World} {base size n:Nat} {t:TypeId} {v u:Value} {xs:List Value} (h:w.ownsRow base t size v n xs) (hg:w.grownBy w' u.ownBlock) (ha:Apart v u):w'.ownsRow base t size v n xs :=
 Bo h fun g e=>hg.block g (Ag h e).2.1 (fun e2=>ha g e e2.symm)
theorem Fc {w:World} {b1 b2 s1 s2 n1 n2:Nat} {t1 t2:TypeId} {v u:Value} {xs ys:List Value} (h:w.ownsRow b1 t1 s1 v n1 xs) (k:w.ownsRow b2 t2 s2 u n2 ys) (hne:t1≠t2):Apart v u:=fun g h1 h2=>by
 obtain⟨_,_,cs,hb⟩:=Ag h h1;obtain⟨_,_,cs',hb'⟩:=Ag k h2;exact(hb.ne_ hb' hne) rfl
section
variable {w wr w1 : World} {zb : Nat} {vo vu vt ve : Value} {z : Zn}
end
theorem Vx:∀ (l:List (Int×Int)) (k:Nat) (x:Int×Int),l[k]?=some x→(pts l)[k*2]?=some (.int .i64 x.1)∧(pts l)[k*2+1]?=some (.int .i64 x.2)
 | [],k,x,h=>by simp at h
 | y::r,0,x,h=>by
  simp only[List.getElem?_cons_zero,Option.some.injEq] at h;subst h;exact⟨rfl,rfl⟩
 | y::r,k+1,x,h=>by
  have:=Vx r k x (by simpa using h);rw[Nat.add_mul];exact this
theorem Xa (l:List Int) (k:Nat) (x:Int) (h:l[k]?=some x):(ints l)[k]?=some (.int .i64 x):=by
 unfold ints;rw[List.getElem?_map,h];rfl
theorem Oo {α:Type} {l l':List α} {k:Nat} {x x':α} (h:l[k]?=some x) (h':l'[k]?=some x') (hn:x≠x'):l≠l':=fun e=>by
 subst e;rw[h] at h'
 injection h' with h'
 exact hn h'
theorem Mn {α:Type} {l l':List α} {k:Nat} {x:α} (h:l[k]?=some x) (h':l'[k]?=some x) (ht:l.take k=l'.take k):l.take (k+1)=l'.take (k+1):=by
 rw[List.take_add_one,List.take_add_one,ht,h,h']
theorem Lp:∀ {l:List (Int×Int)} {i:Nat} (_:i<l.length) (p:Int×Int),pts (l.set i p)=((pts l).set (i*2) (.int .i64 p.1)).set (i*2+1) (.int .i64 p.2)
 | a::l,0,h,p=>by simp[pts]
 | a::l,i+1,h,p=>by
  have ih:=Lp (l:=l) (i:=i) (by simpa using h) p;have:((pts (a::l)).set ((i+1)*2) (.int .i64 p.1)).set ((i+1)*2+1) (.int .i64 p.2)=.int .i64 a.1::.int .i64 a.2::((pts l).set (i*2) (.int .i64 p.1)).set (i*2+1) (.int .i64 p.2):=by
   rw[show (i+1)*2=i*2+1+1 by omega];rfl
  rw[this,←ih];rfl
 | [],i,h,p=>by simp at h
end Go.Proofs.YtnhebmgibiomnaaGreat

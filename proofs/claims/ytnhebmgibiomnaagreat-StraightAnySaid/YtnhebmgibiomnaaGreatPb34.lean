/- Parts of the proof, joined: StS StD. -/
import Derived.Test.YtnhebmgibiomnaaGreatPb32
import Derived.Test.YtnhebmgibiomnaaGreatPb33
set_option linter.unusedVariables false
set_option linter.unusedSimpArgs false
set_option maxRecDepth 100000
set_option maxHeartbeats 8000000
namespace Go.Proofs.YtnhebmgibiomnaaGreat
open Go.RowKit Mc
namespace Sr
theorem deed_sz {n m k:Nat} {s:St} (r:Reg) (h:Mr.Sz n m k s.m):Mr.Sz n m k (deed r s).m:=by
 unfold deed;simp only;split <;> (first|exact h.same ⟨rfl,rfl,rfl,rfl,rfl,rfl⟩|skip)
 ·exact⟨h.org,h.cur,h.touch,h.ends,by show (Fz _ _ _).length=_;rw[Mr.put_len];exact h.cvt,h.store⟩
 ·exact⟨h.org,h.cur,h.touch,h.ends,h.cvt,by show (Fz _ _ _).length=_;rw[Mr.put_len];exact h.store⟩
 ·split
  ·exact Mr.goes_sz h _ _ _
  ·exact h
 ·split
  ·exact Mr.goes_sz h _ _ _
  ·exact h
 ·split
  ·exact Mr.goes_sz h _ _ _
  ·exact h
 ·exact⟨h.org,by show (Ki s.m _).cur.length=_;rw[Mr.inter_len];exact h.cur,h.touch,h.ends,h.cvt,h.store⟩
 ·unfold pass;split <;> exact h
 ·unfold pass;split <;> exact h
theorem Vh {n m k:Nat} (code:List Reg):∀ (j:Nat) (s:St),Mr.Sz n m k s.m→Mr.Sz n m k (runs j code s).m
 | 0,_,h=>h
 | j+1,s,h=>by
  rw[runs];split
  ·exact h
  ·exact Vh code j _ (deed_sz _ h)
theorem run_sz (code:List Reg) (cvt:List Int) (size:Int) (z:Zn):Mr.Sz z.cur.length z.ends.length cvt.length (run code cvt size z).m :=
 Vh code _ _ ((Mr.begin_sz ⟨[],[],cvt,0⟩ z).same ⟨rfl,rfl,rfl,rfl,rfl,rfl⟩)
structure Out where
 zn:Zn
 cv:List Int
 st:List Int
 sk:List Int
 steps:Nat
 err:Int
def outY (t:Mc.St):Out:=⟨⟨t.org,t.cur,t.touch,t.ends⟩,t.cvt,t.store,t.stack.reverse,t.steps,0⟩
def out (code:List Reg) (cvt:List Int) (size:Int) (z:Zn):Out :=
 if right code then outY (told (run code cvt size z) (top code)) else⟨⟨[],[],[],[]⟩,[],[],[],0,50⟩
structure OutOk (o:Out):Prop where
 zn:ZnOk o.zn
 cv:o.cv.length≤1000000
 st:o.st.length≤1000000
 sk:o.sk.length≤1000000
theorem out_ok (code:List Reg) (cvt:List Int) (size:Int) (z:Zn) (hz:ZnOk z) (hcv:cvt.length≤1000000):OutOk (out code cvt size z):=by
 unfold out;by_cases h:right code=true
 ·rw[if_pos h];have k:=run_sz code cvt size z;have hc:=hz.cur;have he:=hz.ends;have hs:=Kq h cvt size z;obtain⟨_,_,_,h4,h5⟩:=Jc h;have e1:(outY (told (run code cvt size z) (top code))).zn=⟨(run code cvt size z).m.org,(run code cvt size z).m.cur,(run code cvt size z).m.touch,(run code cvt size z).m.ends⟩:=rfl;have e2:(outY (told (run code cvt size z) (top code))).cv=(run code cvt size z).m.cvt:=rfl;have e3:(outY (told (run code cvt size z) (top code))).st=(run code cvt size z).m.store:=rfl;have e4:(outY (told (run code cvt size z) (top code))).sk.length=(told (run code cvt size z) (top code)).stack.length:=List.length_reverse ..;refine⟨?_,by rw[e2,k.cvt];exact hcv,by rw[e3,k.store];decide,by rw[e4];omega⟩;rw[e1];exact⟨by show (run code cvt size z).m.org.length≤_;rw[k.org];exact hc,by show (run code cvt size z).m.cur.length≤_;rw[k.cur];exact hc,by show (run code cvt size z).m.touch.length≤_;rw[k.touch];exact hc,by show (run code cvt size z).m.ends.length≤_;rw[k.ends];exact he⟩
 ·rw[if_neg h];exact⟨⟨by simp,by simp,by simp,by simp⟩,by simp,by simp,by simp⟩
theorem Wf {code:List Reg} (h:right code=true) (cvt:List Int) (size:Int) (z:Zn):(out code cvt size z).err=0∧(out code cvt size z).steps<code.length∧((out code cvt size z).sk.length:Int)=(code.getD (code.length-1) nop).n:=by
 unfold out;rw[if_pos h];exact⟨rfl,Vk h cvt size z,by rw[←Kq h cvt size z];show ((List.reverse _).length:Int)=_;rw[List.length_reverse]⟩
end Sr
structure OutAt (Y:World) (o:Sr.Out) (A1 A2 A3 A4 A5 A6 A7:Option Addr):Prop where
 zn:ZnAt Y Y.heap.size o.zn A1 A2 A3 A4
 cv:Reads Y Y.heap.size 1 A5 o.cv.length (ints o.cv)
 st:Reads Y Y.heap.size 1 A6 o.st.length (ints o.st)
 sk:Reads Y Y.heap.size 1 A7 o.sk.length (ints o.sk)
section
variable {code : List Sr.Reg} {cvt : List Int} {size : Int} {z : Zn} {A fA mA cA oA uA tA eA : Option Addr} {c fn fc mn mc cc oc uc tc ec : Nat}
theorem ZnAt.go {X Y:World} (h:ZnAt X X.heap.size z oA uA tA eA) (hb:Below X.heap.size X Y):ZnAt Y Y.heap.size z oA uA tA eA:=⟨Reads.go h.org hb,Reads.go h.cur hb,Reads.go h.touch hb,Reads.go h.ends hb⟩
end
theorem OutAt.go {X Y:World} {o:Sr.Out} {A1 A2 A3 A4 A5 A6 A7:Option Addr} (h:OutAt X o A1 A2 A3 A4 A5 A6 A7) (hb:Below X.heap.size X Y):OutAt Y o A1 A2 A3 A4 A5 A6 A7:=⟨ZnAt.go h.zn hb,Reads.go h.cv hb,Reads.go h.st hb,Reads.go h.sk hb⟩
theorem Zes (X:World) (code:List Sr.Reg) (cvt:List Int) (size:Int) (z:Zn) (A fA mA cA oA uA tA eA:Option Addr) (c fn fc mn mc cc oc uc tc ec:Nat) (h1:Reads X X.heap.size 5 A code.length (Ba code)) (h2:Reads X X.heap.size 1 cA cvt.length (ints cvt)) (h3:ZnAt X X.heap.size z oA uA tA eA) (hcv:cvt.length≤1000000) (hz:ZnOk z) (hcl:code.length≤1000000) :
  Calls Tryz.prog 17 #[.slice A code.length c,(.agg #[.slice fA fn fc,.slice mA mn mc,.slice cA cvt.length cc,.int .i64 size]),(.agg #[.slice oA z.org.length oc,.slice uA z.cur.length uc,.slice tA z.touch.length tc,.slice eA z.ends.length ec])] X fun e Y=>∃ (A1 A2 A3 A4 A5 A6 A7:Option Addr) (c1 c2 c3 c4 c5 c6 c7:Nat),e=.returned (.agg #[.slice A1 (Sr.out code cvt size z).zn.org.length c1,.slice A2 (Sr.out code cvt size z).zn.cur.length c2,.slice A3 (Sr.out code cvt size z).zn.touch.length c3,.slice A4 (Sr.out code cvt size z).zn.ends.length c4,.slice A5 (Sr.out code cvt size z).cv.length c5,.slice A6 (Sr.out code cvt size z).st.length c6,.slice A7 (Sr.out code cvt size z).sk.length c7,.int .i64 (Sr.out code cvt size z).steps,.int .i64 0,.int .i64 (Sr.out code cvt size z).err]) ∧
   OutAt Y (Sr.out code cvt size z) A1 A2 A3 A4 A5 A6 A7∧Below X.heap.size X Y:=by
 have hcl':code.length≤1000000000000:=by omega
 cases hr:Sr.right code
 ·refine(Vi X code A c cvt size z hcv hz hcl' fA mA cA oA tA eA uA fn fc mn mc cc oc tc ec uc h1 h2 h3 hr).mono ?_;unfold Sr.out;rw[if_neg (by rw[hr];simp)];rintro e Y ⟨rfl,hb⟩;exact⟨none,none,none,none,none,none,none,0,0,0,0,0,0,0,rfl,⟨⟨Reads.none_,Reads.none_,Reads.none_,Reads.none_⟩,Reads.none_,Reads.none_,Reads.none_⟩,hb⟩
 ·refine(Qr X code A c cvt size z hcv hz hcl' fA mA cA oA tA eA uA fn fc mn mc cc oc tc ec uc h1 h2 h3 hr).mono ?_;have hst:=(Sr.run_sz code cvt size z).store;unfold Sr.out;rw[if_pos hr];have hst':(Sr.told (Sr.run code cvt size z) (Sr.top code)).store.length=32:=hst;have hp:(Sr.told (Sr.run code cvt size z) (Sr.top code)).peak=0:=rfl;have he:(Sr.told (Sr.run code cvt size z) (Sr.top code)).err=0:=rfl;generalize Sr.told (Sr.run code cvt size z) (Sr.top code)=T at *;rintro e Y ⟨og,cu,tu,en,cv,st,sk,rfl,hra,hb⟩;clear h1 h2 h3;obtain⟨h1,h2,h3,h4,h5,h6,h7⟩:=hra;obtain⟨A1,c1,rfl,_⟩:=Ae h1;obtain⟨A2,c2,rfl,_⟩:=Ae h2;obtain⟨A3,c3,rfl,_⟩:=Ae h3;obtain⟨A4,c4,rfl,_⟩:=Ae h4;obtain⟨A5,c5,rfl,_⟩:=Ae h5;obtain⟨A6,c6,rfl,_⟩:=Ae h6;obtain⟨A7,c7,rfl,_⟩:=Ae h7;have r6:=Reads.of_own h6;have r7:=Reads.of_own h7;rw[hp,he];unfold Sr.outY;dsimp only;rw[hst',List.length_reverse];exact⟨A1,A2,A3,A4,A5,A6,A7,c1,c2,c3,c4,c5,c6,c7,rfl,⟨⟨Reads.of_own h1,Reads.of_own h2,Reads.of_own h3,Reads.of_own h4⟩,Reads.of_own h5,by rw[hst'];exact r6,by rw[List.length_reverse];exact r7⟩,hb⟩
end Go.Proofs.YtnhebmgibiomnaaGreat
namespace Go.Proofs.YtnhebmgibiomnaaGreat
open Go.RowKit Mc
namespace Sr
theorem does_out {ll:List (List (Int×Int))} {l:List (Int×Int)} {c:Bd.Cost} (h:Bd.program ll l=(c,0)) {code:List Reg} (hb:Bu.build ll l=(code,0)) (cvt:List Int) (size:Int) (z:Zn) :
  ∃ n,outY (Mc.run c.steps.toNat (Mc.begin_ ⟨ll,l,cvt,size⟩ z)) = { out code cvt size z with steps:=n }∧(Mc.run c.steps.toNat (Mc.begin_ ⟨ll,l,cvt,size⟩ z)).err=0∧right code=true∧code.length≤20000∧(out code cvt size z).err=0∧(out code cvt size z).steps<code.length:=by
 obtain⟨h1,h2,h3,h4,h5,h6⟩:=Sm.build_sim h hb cvt size z;obtain⟨h7,h8⟩:=Sm.build_right hb;obtain⟨h9,h10,_⟩:=Wf h7 cvt size z;refine⟨(outY (Mc.run c.steps.toNat (Mc.begin_ ⟨ll,l,cvt,size⟩ z))).steps,?_,h2,h7,h8,h9,h10⟩;have ht:top code=c.delta.toNat:=by
  unfold Bu.build at hb;rw[h] at hb;simp only[ne_eq,not_true_eq_false,if_false] at hb;split at hb
  ·simp at hb
  ·simp only[Prod.mk.injEq] at hb;unfold top;rw[←hb.1];simp[List.getD_eq_getElem?_getD]
 unfold out;rw[if_pos h7];generalize Mc.run c.steps.toNat (Mc.begin_ ⟨ll,l,cvt,size⟩ z)=S at *;obtain⟨o,ho⟩:=h1.co;have hrl:=h1.rl;have hstk:=h1.stk;generalize run code cvt size z=R at *;unfold outY told;simp only[List.reverse_reverse];rw[ho,ht,Out.mk.injEq];refine⟨rfl,rfl,rfl,?_,rfl,rfl⟩;have hn:c.delta.toNat=S.stack.length:=by omega
 rw[hn];refine List.ext_getElem? fun i=>?_
 by_cases hi:i<S.stack.length
 ·have hs:=hstk (S.stack.length-1-i) (by omega);rw[show S.stack.length-1-(S.stack.length-1-i)=i by omega] at hs;rw[List.getElem?_reverse hi,List.getElem?_take,if_pos hi,List.getElem?_eq_getElem (by omega),List.getElem?_eq_getElem (by omega)];rw[List.getD_eq_getElem?_getD,List.getD_eq_getElem?_getD,List.getElem?_eq_getElem (by omega),List.getElem?_eq_getElem (by omega)] at hs;exact congrArg some hs.symm
 ·rw[List.getElem?_eq_none (by simp;omega),List.getElem?_eq_none (by simp;omega)]
theorem build_cases (ll:List (List (Int×Int))) (l:List (Int×Int)):((Bu.build ll l).2≠0∧(Bu.build ll l).1=[]∧((Bd.program ll l).2=(Bu.build ll l).2∨(Bd.program ll l).2=0∧(Bu.build ll l).2=3))∨((Bu.build ll l).2=0∧(Bd.program ll l).2=0):=by
 unfold Bu.build;simp only;by_cases h:(Bd.program ll l).2≠0
 ·rw[if_pos h];exact .inl ⟨h,rfl,.inl rfl⟩
 ·rw[if_neg h];have h0:(Bd.program ll l).2=0:=by omega
  split
  ·exact .inl ⟨by simp,rfl,.inr ⟨h0,rfl⟩⟩
  ·exact .inr ⟨rfl,h0⟩
end Sr
structure DoW (ll:List (List (Int×Int))) (l:List (Int×Int)) (cvt:List Int) (size:Int) (z:Zn) (fA mA cA oA uA tA eA:Option Addr) (fc mc cc oc uc tc ec:Nat) (w:World) (pb zb:Nat) (X:World):Prop where
 pz:Blk X pb 26 #[.slice fA ll.length fc,.slice mA l.length mc,.slice cA cvt.length cc,.int .i64 size]
 zz:Blk X zb 30 #[.slice oA z.org.length oc,.slice uA z.cur.length uc,.slice tA z.touch.length tc,.slice eA z.ends.length ec]
 fl:RowsAt X X.heap.size fA ll
 ml:Reads X X.heap.size 2 mA l.length (Bg l)
 cv:Reads X X.heap.size 1 cA cvt.length (ints cvt)
 zn:ZnAt X X.heap.size z oA uA tA eA
 b:Below w.heap.size w X
section
variable {ll : List (List (Int × Int))} {l : List (Int × Int)} {cvt : List Int} {size : Int} {z : Zn} {fA mA cA oA uA tA eA : Option Addr} {fc mc cc oc uc tc ec : Nat}
theorem RowsAt.go {X Y:World} {A:Option Addr} {ll:List (List (Int×Int))} (h:RowsAt X X.heap.size A ll) (hb:Below X.heap.size X Y):RowsAt Y Y.heap.size A ll:=(h.below hb Ad).more hb.size
theorem DoW.go {w:World} {pb zb:Nat} {X Y:World} (h:DoW ll l cvt size z fA mA cA oA uA tA eA fc mc cc oc uc tc ec w pb zb X) (hb:Below X.heap.size X Y):DoW ll l cvt size z fA mA cA oA uA tA eA fc mc cc oc uc tc ec w pb zb Y :=
 ⟨Blk.go h.pz hb,Blk.go h.zz hb,RowsAt.go h.fl hb,Reads.go h.ml hb,Reads.go h.cv hb,ZnAt.go h.zn hb,h.b.trans (hb.mono h.b.size)⟩
theorem DoW.start (w:World) (h0:RowsAt w w.heap.size fA ll) (h1:Reads w w.heap.size 2 mA l.length (Bg l)) (h2:Reads w w.heap.size 1 cA cvt.length (ints cvt)) (h3:ZnAt w w.heap.size z oA uA tA eA) :
  DoW ll l cvt size z fA mA cA oA uA tA eA fc mc cc oc uc tc ec w w.heap.size (w.heap.size+1) ((w.alloc (.cells #[.slice fA ll.length fc,.slice mA l.length mc,.slice cA cvt.length cc,.int .i64 size] 26)).alloc (.cells #[.slice oA z.org.length oc,.slice uA z.cur.length uc,.slice tA z.touch.length tc,.slice eA z.ends.length ec] 30)):=by
 have hb:Below w.heap.size w ((w.alloc (.cells #[.slice fA ll.length fc,.slice mA l.length mc,.slice cA cvt.length cc,.int .i64 size] 26)).alloc (.cells #[.slice oA z.org.length oc,.slice uA z.cur.length uc,.slice tA z.touch.length tc,.slice eA z.ends.length ec] 30)):=(aliasBr.alloc Ad _).alloc (by simp) _;exact⟨(Blk.new _ _ _).alloc _,Blk.new_at _ _ _ (by simp),RowsAt.go h0 hb,Reads.go h1 hb,Reads.go h2 hb,ZnAt.go h3 hb,hb⟩
theorem DoW.pg {w:World} {pb zb:Nat} {X:World} (h:DoW ll l cvt size z fA mA cA oA uA tA eA fc mc cc oc uc tc ec w pb zb X):PgAt X X.heap.size ⟨ll,l,cvt,size⟩ fA mA cA:=by
 obtain⟨vs,h1,h2⟩:=h.fl;refine⟨⟨vs,h1,fun i code hc=>?_⟩,by have:=h.ml;rw[Dz] at this;exact this,h.cv⟩;obtain⟨v,h3,A,c,rfl,h4⟩:=h2 i code hc;rw[Dz] at h4;exact⟨A,c,h3,h4⟩
end
theorem Zas (X:World) (ll:List (List (Int×Int))) (l:List (Int×Int)) (cvt:List Int) (size:Int) (z:Zn) (fA mA cA oA uA tA eA:Option Addr) (fc mc cc oc uc tc ec:Nat) (h:PgAt X X.heap.size ⟨ll,l,cvt,size⟩ fA mA cA) (h3:ZnAt X X.heap.size z oA uA tA eA) (hok:PgOk ⟨ll,l,cvt,size⟩) (hz:ZnOk z) (n:Int) (hn:n≤1000000) :
  Calls Tryz.prog 55 #[(.agg #[.slice fA ll.length fc,.slice mA l.length mc,.slice cA cvt.length cc,.int .i64 size]),(.agg #[.slice oA z.org.length oc,.slice uA z.cur.length uc,.slice tA z.touch.length tc,.slice eA z.ends.length ec]),.int .i64 n] X fun e Y=>∃ (T:Sr.Out) (pk er:Int),T=Sr.outY (Mc.run n.toNat (begin_ ⟨ll,l,cvt,size⟩ z))∧er=(Mc.run n.toNat (begin_ ⟨ll,l,cvt,size⟩ z)).err∧∃ (A1 A2 A3 A4 A5 A6 A7:Option Addr) (c1 c2 c3 c4 c5 c6 c7:Nat),e=.returned (.agg #[.slice A1 T.zn.org.length c1,.slice A2 T.zn.cur.length c2,.slice A3 T.zn.touch.length c3,.slice A4 T.zn.ends.length c4,.slice A5 T.cv.length c5,.slice A6 T.st.length c6,.slice A7 T.sk.length c7,.int .i64 T.steps,.int .i64 pk,.int .i64 er]) ∧
   OutAt Y T A1 A2 A3 A4 A5 A6 A7∧Below X.heap.size X Y:=by
 refine(Zem X ⟨ll,l,cvt,size⟩ z hok hz fA mA cA oA tA eA uA fc mc cc oc tc ec uc h h3 n hn).mono ?_;have hst':=(Mr.run_small n.toNat ⟨ll,l,cvt,size⟩ z hz.cur hz.ends hok.cvt).2.2.2.2.2.1;generalize Mc.run n.toNat (begin_ ⟨ll,l,cvt,size⟩ z)=S at *;rintro e Y ⟨og,cu,tu,en,cv,st,sk,rfl,hra,hb⟩;obtain⟨h1,h2,h3,h4,h5,h6,h7⟩:=hra;obtain⟨A1,c1,rfl,_⟩:=Ae h1;obtain⟨A2,c2,rfl,_⟩:=Ae h2;obtain⟨A3,c3,rfl,_⟩:=Ae h3;obtain⟨A4,c4,rfl,_⟩:=Ae h4;obtain⟨A5,c5,rfl,_⟩:=Ae h5;obtain⟨A6,c6,rfl,_⟩:=Ae h6;obtain⟨A7,c7,rfl,_⟩:=Ae h7;have r6:=Reads.of_own h6;have r7:=Reads.of_own h7;refine⟨Sr.outY S,S.peak,S.err,rfl,rfl,A1,A2,A3,A4,A5,A6,A7,c1,c2,c3,c4,c5,c6,c7,?_,⟨⟨Reads.of_own h1,Reads.of_own h2,Reads.of_own h3,Reads.of_own h4⟩,Reads.of_own h5,?_,?_⟩,hb⟩
 ·unfold Sr.outY;dsimp only;rw[hst',List.length_reverse]
 ·show Reads Y _ 1 A6 S.store.length (ints S.store)
  rw[hst'];exact r6
 ·show Reads Y _ 1 A7 S.stack.reverse.length (ints S.stack.reverse)
  rw[List.length_reverse];exact r7
theorem Zbi (ll:List (List (Int×Int))) (l:List (Int×Int)) (cvt:List Int) (size:Int) (z:Zn) (fA mA cA oA uA tA eA:Option Addr) (fc mc cc oc uc tc ec:Nat) (w:World) (h0:RowsAt w w.heap.size fA ll) (h1:Reads w w.heap.size 2 mA l.length (Bg l)) (h2:Reads w w.heap.size 1 cA cvt.length (ints cvt)) (h3:ZnAt w w.heap.size z oA uA tA eA) (hz:ZnOk z) (hll:ll.length≤100000) (hlen:∀ l∈ll,l.length≤100000) (hn:l.length≤100000) (hcv:cvt.length≤1000000) (hi:∀ l∈ll,∀ x∈l,I64 x.2) (hi2:∀ x∈l,I64 x.2) :
  Calls Tryz.prog 27 #[(.agg #[.slice fA ll.length fc,.slice mA l.length mc,.slice cA cvt.length cc,.int .i64 size]),(.agg #[.slice oA z.org.length oc,.slice uA z.cur.length uc,.slice tA z.touch.length tc,.slice eA z.ends.length ec])] w fun e w'=>e=.returned (.bool true)∧Below w.heap.size w w':=by
 have H:=Aa (DoW.start (fc:=fc) (mc:=mc) (cc:=cc) (oc:=oc) (uc:=uc) (tc:=tc) (ec:=ec) (size:=size) w h0 h1 h2 h3);clear h0 h1 h2 h3;have HZ:=Aa hz;have HOK:=Aa (PgOk.mk (p:=⟨ll,l,cvt,size⟩) (by show ll.length≤_;omega) (fun c hc=>Nat.le_trans (hlen c hc) (by decide)) (by show l.length≤_;omega) hcv);have HB:=Aa (fun X h0 h1=>Kb fA mA fc mc (.slice cA cvt.length cc) size ll l X ⟨_,_,_,rfl⟩ h0 h1 hlen hn hi hi2);have HP:=Aa (fun X h0 h1=>Jf fA mA fc mc X.heap.size (.slice cA cvt.length cc) size ll l X ⟨_,_,_,rfl⟩ h0 h1 Ad (fun l hl=>Nat.le_trans (hlen l hl) (by decide)) (Nat.le_trans hn (by decide)));have HCV:=Aa hcv;clear hz hll hlen hn hcv hi hi2;go_enter Tryz.func27,Tryz.ntmps27;go_upto_region 1 with fail
 generalize (w.alloc (.cells #[.slice fA ll.length fc,.slice mA l.length mc,.slice cA cvt.length cc,.int .i64 size] 26)).alloc (.cells #[.slice oA z.org.length oc,.slice uA z.cur.length uc,.slice tA z.touch.length tc,.slice eA z.ends.length ec] 30)=X at *;have p0:=Ab H.out.pz 0 rfl;have p1:=Ab H.out.pz 1 rfl;have p2:=Ab H.out.pz 2 rfl;have p3:=Ab H.out.pz 3 rfl;have z0:=Ab H.out.zz 0 rfl;have z1:=Ab H.out.zz 1 rfl;have z2:=Ab H.out.zz 2 rfl;have z3:=Ab H.out.zz 3 rfl;have pl:=H.out.pz.lt;have zl:=H.out.zz.lt;go_wp2_with fail
 refine(HB.out X H.out.fl H.out.ml).mono ?_;have hcs:=Sr.build_cases ll l;have hdo:=fun c h code hb=>Sr.does_out (ll:=ll) (l:=l) (c:=c) h (code:=code) hb cvt size z
 generalize Bu.build ll l=r at *;obtain⟨code,er⟩:=r;simp only at hcs;rintro e w1 ⟨v,rfl,hb,ho⟩;obtain⟨A,c,rfl,_⟩:=Ae ho;have H1:=Aa (H.out.go hb);have HC1:=Aa (Reads.of_own ho);clear p0 p1 p2 p3 z0 z1 z2 z3 pl zl;clear H hb ho HB;have HDO0:=Aa hdo;have HCS:=Aa hcs;clear hdo hcs;dsimp only;go_upto_region 2 with fail
 have p0:=Ab H1.out.pz 0 rfl;have p1:=Ab H1.out.pz 1 rfl;have p2:=Ab H1.out.pz 2 rfl;have p3:=Ab H1.out.pz 3 rfl;have z0:=Ab H1.out.zz 0 rfl;have z1:=Ab H1.out.zz 1 rfl;have z2:=Ab H1.out.zz 2 rfl;have z3:=Ab H1.out.zz 3 rfl;have pl:=H1.out.pz.lt;have zl:=H1.out.zz.lt;go_wp2_with fail
 refine(HP.out w1 H1.out.fl H1.out.ml).mono ?_;obtain⟨⟨⟨c0,c1,c2,c3⟩,f⟩,hpr⟩:∃ r,r=Bd.program ll l:=⟨_,rfl⟩;have hcs:=HCS.out;rw[←hpr] at hcs ⊢;simp only at hcs;rintro e w2 ⟨rfl,hb2⟩;simp only[Qa];have hb:=hb2.alloc hb2.size (.cells #[.int .i64 c0,.int .i64 c1,.int .i64 c2,.int .i64 c3] 78);have H2:=Aa (H1.out.go hb);have HC2:=Aa (Reads.go HC1.out hb);have HK2:=Aa (Blk.new w2 78 #[.int .i64 c0,.int .i64 c1,.int .i64 c2,.int .i64 c3]);clear p0 p1 p2 p3 z0 z1 z2 z3 pl zl;have HPR:=Aa hpr;clear H1 HC1 HCS hpr hb hb2 HP;rcases hcs with⟨k1,k2,k3⟩|⟨k1,k2⟩
 ·subst k2;have HDO:=HDO0;clear HDO0 HDO HPR;have hne:(er !=0)=true:=by simpa using k1
  have hbw:=H2.out.b;rcases k3 with k3|⟨k3,k4⟩
  ·subst k3;have HK:=Aa k1;clear k1;go_wp2_with fail
   go_ret;exact⟨rfl,hbw⟩
  ·subst k3;subst k4;clear k1;go_wp2_with fail
   go_ret;exact⟨rfl,hbw⟩
 ·subst k1;subst k2;obtain⟨n,d1,d2,d3,d4,d5,d6⟩:=HDO0.out _ HPR.out.symm _ rfl;have hst:c3≤4096:=by
   have:=Hd.holds HPR.out.symm (s:=begin_ ⟨ll,l,cvt,size⟩ z) rfl rfl rfl rfl rfl rfl rfl;exact this.2.2.2.2.1
  have HDO:=Aa d1;have HER:=Aa d2;have HRT:=Aa d3;have HST:=Aa hst;have HOT:=Aa (Sr.out_ok code cvt size z HZ.out HCV.out);clear HDO0 HPR d1 d2 d3 hst;go_upto_region 5 with fail
  generalize w2.alloc (.cells #[.int .i64 c0,.int .i64 c1,.int .i64 c2,.int .i64 c3] 78)=X2 at *;generalize w2.heap.size=kb at *;have p0:=Ab H2.out.pz 0 rfl;have p1:=Ab H2.out.pz 1 rfl;have p2:=Ab H2.out.pz 2 rfl;have p3:=Ab H2.out.pz 3 rfl;have z0:=Ab H2.out.zz 0 rfl;have z1:=Ab H2.out.zz 1 rfl;have z2:=Ab H2.out.zz 2 rfl;have z3:=Ab H2.out.zz 3 rfl;have pl:=H2.out.pz.lt;have zl:=H2.out.zz.lt;go_wp2_with fail
  refine(Zes X2 code cvt size z A fA mA cA oA uA tA eA c ll.length fc l.length mc cc oc uc tc ec HC2.out H2.out.cv H2.out.zn HCV.out HZ.out (by omega)).mono ?_;generalize Sr.out code cvt size z=T at *;rw[d5];rintro e w3 ⟨A1,A2,A3,A4,A5,A6,A7,a1,a2,a3,a4,a5,a6,a7,rfl,ho,hb3⟩;have hb:=hb3.alloc hb3.size (.cells #[.slice A1 T.zn.org.length a1,.slice A2 T.zn.cur.length a2,.slice A3 T.zn.touch.length a3,.slice A4 T.zn.ends.length a4,.slice A5 T.cv.length a5,.slice A6 T.st.length a6,.slice A7 T.sk.length a7,.int .i64 T.steps,.int .i64 0,.int .i64 0] 39);have H3:=Aa (H2.out.go hb);have HC3:=Aa (Reads.go HC2.out hb);have HK3:=Aa (Blk.go HK2.out hb);have HO3:=Aa (ho.go (Fv w3 (.cells #[.slice A1 T.zn.org.length a1,.slice A2 T.zn.cur.length a2,.slice A3 T.zn.touch.length a3,.slice A4 T.zn.ends.length a4,.slice A5 T.cv.length a5,.slice A6 T.st.length a6,.slice A7 T.sk.length a7,.int .i64 T.steps,.int .i64 0,.int .i64 0] 39)));have HA3:=Aa (Blk.new w3 39 #[.slice A1 T.zn.org.length a1,.slice A2 T.zn.cur.length a2,.slice A3 T.zn.touch.length a3,.slice A4 T.zn.ends.length a4,.slice A5 T.cv.length a5,.slice A6 T.st.length a6,.slice A7 T.sk.length a7,.int .i64 T.steps,.int .i64 0,.int .i64 0]);have HD6:=Aa d6;have HD4:=Aa d4;clear p0 p1 p2 p3 z0 z1 z2 z3 pl zl;clear H2 HC2 HK2 hb hb3 ho d4 d5 d6;go_upto_region 6 with fail
  generalize w3.alloc (.cells #[.slice A1 T.zn.org.length a1,.slice A2 T.zn.cur.length a2,.slice A3 T.zn.touch.length a3,.slice A4 T.zn.ends.length a4,.slice A5 T.cv.length a5,.slice A6 T.st.length a6,.slice A7 T.sk.length a7,.int .i64 T.steps,.int .i64 0,.int .i64 0] 39)=X3 at *;generalize w3.heap.size=ab at *;have p0:=Ab H3.out.pz 0 rfl;have p1:=Ab H3.out.pz 1 rfl;have p2:=Ab H3.out.pz 2 rfl;have p3:=Ab H3.out.pz 3 rfl;have z0:=Ab H3.out.zz 0 rfl;have z1:=Ab H3.out.zz 1 rfl;have z2:=Ab H3.out.zz 2 rfl;have z3:=Ab H3.out.zz 3 rfl;have pl:=H3.out.pz.lt;have zl:=H3.out.zz.lt;have k3:=Ab HK3.out 3 rfl;have kl:=HK3.out.lt;go_wp2_with fail
  refine(Zas X3 ll l cvt size z fA mA cA oA uA tA eA fc mc cc oc uc tc ec H3.out.pg H3.out.zn HOK.out HZ.out c3 (by have:=HST.out;omega)).mono ?_;have hdo:=HDO.out;have her:=HER.out;rw[hdo,her];clear hdo her HDO HER;rintro e w4 ⟨T2,pk,er,hT2,her,B1,B2,B3,B4,B5,B6,B7,b1,b2,b3,b4,b5,b6,b7,rfl,ho,hb4⟩;subst hT2;subst her;dsimp only;have ho:OutAt w4 { T with steps:=n } B1 B2 B3 B4 B5 B6 B7:=ho;have hb:=hb4.alloc hb4.size (.cells #[.slice B1 T.zn.org.length b1,.slice B2 T.zn.cur.length b2,.slice B3 T.zn.touch.length b3,.slice B4 T.zn.ends.length b4,.slice B5 T.cv.length b5,.slice B6 T.st.length b6,.slice B7 T.sk.length b7,.int .i64 n,.int .i64 pk,.int .i64 0] 39);have H4:=Aa (H3.out.go hb);have HC4:=Aa (Reads.go HC3.out hb);have HO4:=Aa (HO3.out.go hb);have HA4:=Aa (Blk.go HA3.out hb);have HP4:=Aa (ho.go (Fv w4 (.cells #[.slice B1 T.zn.org.length b1,.slice B2 T.zn.cur.length b2,.slice B3 T.zn.touch.length b3,.slice B4 T.zn.ends.length b4,.slice B5 T.cv.length b5,.slice B6 T.st.length b6,.slice B7 T.sk.length b7,.int .i64 n,.int .i64 pk,.int .i64 0] 39)));have HB4:=Aa (Blk.new w4 39 #[.slice B1 T.zn.org.length b1,.slice B2 T.zn.cur.length b2,.slice B3 T.zn.touch.length b3,.slice B4 T.zn.ends.length b4,.slice B5 T.cv.length b5,.slice B6 T.st.length b6,.slice B7 T.sk.length b7,.int .i64 n,.int .i64 pk,.int .i64 0]);clear p0 p1 p2 p3 z0 z1 z2 z3 pl zl;clear H3 HC3 HK3 HO3 HA3 hb hb4 ho k3 kl;go_upto_region 7 with fail
  generalize w4.alloc (.cells #[.slice B1 T.zn.org.length b1,.slice B2 T.zn.cur.length b2,.slice B3 T.zn.touch.length b3,.slice B4 T.zn.ends.length b4,.slice B5 T.cv.length b5,.slice B6 T.st.length b6,.slice B7 T.sk.length b7,.int .i64 n,.int .i64 pk,.int .i64 0] 39)=X4 at *;generalize w4.heap.size=bb at *;have hq:=Dw A c X4.heap.size code X4 HC4.out Ad (by have:=HD4.out;omega);rw[HRT.out] at hq;have HQ:=Aa hq;clear hq;go_wp2_with fail
  refine HQ.out.mono ?_;rintro e w5 ⟨rfl,hb⟩;have H5:=Aa (H4.out.go hb);have HO5:=Aa (HO4.out.go hb);have HA5:=Aa (Blk.go HA4.out hb);have HP5:=Aa (HP4.out.go hb);have HB5:=Aa (Blk.go HB4.out hb);clear H4 HC4 HO4 HA4 HP4 HB4 hb HQ;have q0:=Ab HA5.out 0 rfl;have q1:=Ab HA5.out 1 rfl;have q2:=Ab HA5.out 2 rfl;have q3:=Ab HA5.out 3 rfl;have q4:=Ab HA5.out 4 rfl;have q5:=Ab HA5.out 5 rfl;have q6:=Ab HA5.out 6 rfl;have q7:=Ab HA5.out 7 rfl;have q8:=Ab HA5.out 8 rfl;have q9:=Ab HA5.out 9 rfl;have ql:=HA5.out.lt;have r0:=Ab HB5.out 0 rfl;have r1:=Ab HB5.out 1 rfl;have r2:=Ab HB5.out 2 rfl;have r3:=Ab HB5.out 3 rfl;have r4:=Ab HB5.out 4 rfl;have r5:=Ab HB5.out 5 rfl;have r6:=Ab HB5.out 6 rfl;have r7:=Ab HB5.out 7 rfl;have r8:=Ab HB5.out 8 rfl;have r9:=Ab HB5.out 9 rfl;have rl:=HB5.out.lt;go_wp2_with fail
  refine(My w5 w5.heap.size Ad T.zn T.cv T.st T.sk T.steps 0 n pk 0 A1 A2 A3 A4 A5 A6 A7 B1 B2 B3 B4 B5 B6 B7 a1 a2 a3 a4 a5 a6 a7 b1 b2 b3 b4 b5 b6 b7 HOT.out.zn HOT.out.cv HOT.out.st HOT.out.sk HO5.out.zn HO5.out.cv HO5.out.st HO5.out.sk HP5.out.zn HP5.out.cv HP5.out.st HP5.out.sk).mono ?_;rintro e w6 ⟨rfl,hg⟩;have hb:=Grow.below hg Ad;have hbw:=(H5.out.go hb).b;have HA6:=Aa (Blk.go HA5.out hb);clear H5 HO5 HA5 HP5 HB5 hg hb;clear q0 q1 q2 q3 q4 q5 q6 q7 q8 q9 ql;clear r0 r1 r2 r3 r4 r5 r6 r7 r8 r9 rl;have q0:=Ab HA6.out 0 rfl;have q1:=Ab HA6.out 1 rfl;have q2:=Ab HA6.out 2 rfl;have q3:=Ab HA6.out 3 rfl;have q4:=Ab HA6.out 4 rfl;have q5:=Ab HA6.out 5 rfl;have q6:=Ab HA6.out 6 rfl;have q7:=Ab HA6.out 7 rfl;have q8:=Ab HA6.out 8 rfl;have q9:=Ab HA6.out 9 rfl;have ql:=HA6.out.lt;have hlt:(T.steps:Int)<code.length:=by have:=HD6.out;omega
  go_wp2_with fail
  go_ret;exact⟨rfl,hbw⟩
end Go.Proofs.YtnhebmgibiomnaaGreat

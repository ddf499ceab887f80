/- Parts of the proof, joined: MnD MnE. -/
import Derived.Test.YtnhebmgibiomnaaGreatPb17
set_option linter.unusedVariables false
set_option linter.unusedSimpArgs false
set_option maxRecDepth 100000
set_option maxHeartbeats 8000000
namespace Go.Proofs.YtnhebmgibiomnaaGreat
open Go.RowKit Mc
def Oj (B:Nat) (W:World) (k:Nat):Prop:=B≤k∧k<W.heap.size
def FrameAt (B:Nat) (W:World) (v:Value) (ml:List (Int×Int)):Prop :=
 ∃ fb code,v=.slice (some ⟨fb,0,none⟩) 1 1∧Blk W fb 205 #[code,.int .i64 0,.int .i64 0]∧B≤fb∧W.ownsRow B 96 2 code ml.length (pts ml)
theorem FrameAt.grow {B:Nat} {W W':World} {v:Value} {ml:List (Int×Int)} (h:FrameAt B W v ml) (hg:Grow W W'):FrameAt B W' v ml:=by
 obtain⟨fb,code,e,h1,h2,h3⟩:=h;exact⟨fb,code,e,hg.blk h1 (fun x=>x),h2,Bc h3 hg⟩
theorem Gd {B db:Nat} {W W':World} (h:Deeds W (Oj B W) db) (hg:Grow W W'):Deeds W' (Oj B W') db:=by
 have hz:=hg.size;have h0:=h.1;refine h.keep (hg.block db h0.2 (fun x=>x)) (fun g t cs hO _ _=>hg.block g hO.2 (fun x=>x)) (fun k hk=>⟨hk.1,by have:=hk.2;omega⟩)
theorem DI.grow {w0 W:World} {n:Nat} (h:DI w0 n W):Grow w0 W:=by
 obtain⟨_,_,_,h3⟩:=h;exact Fr.of_below h3 (fun _ hk _=>hk)
theorem DI.deeds {w0 W:World} (h:DI w0 39 W) {B:Nat} (hB:B≤w0.heap.size):Deeds W (Oj B W) w0.heap.size:=by
 have hlt:=h.lt;obtain⟨bs,h1,h2,h3⟩:=h;exact⟨⟨hB,hlt⟩,bs,39,h1,fun i a b=>(h2 i a b).keep rfl (fun _ _ _ h=>h) (fun k hk=>⟨by omega,hk.2⟩)⟩
theorem Ts:(Tryz.prog.info? 24).map (fun i=>(i.zero,i.size,i.bytes))=some (some (.slice none 0 0),1,24):=by kernel_rfl
theorem Wr (n:Nat):madeCells #[Value.slice none 0 0] n=(List.replicate n (Value.slice none 0 0)).toArray:=by
 unfold madeCells;apply Array.toList_inj.1;simp only[Array.toList_map,Array.toList_range];rw[List.eq_replicate_iff];exact⟨by simp,by intro b hb;simp at hb;obtain⟨a,ha,rfl⟩:=hb;rw[show a % 1=0 by omega];rfl⟩
theorem Tg (n:Nat) (hn:n≤1000000) (w:World):(Instr.makeSlice 23 (.int .i64 (n:Int)) (.int .i64 (n:Int))).run Tryz.prog w=.ok (.slice (some ⟨w.heap.size,0,none⟩) n n) (w.alloc (.cells (List.replicate n (Value.slice none 0 0)).toArray 24)):=by
 obtain⟨i,hi,hz0,hz1,hz2⟩:=Dc Ts;have:=Gz (P:=Tryz.prog) 23 24 i _ Tryz.underlying23 hi hz0 n (by rw[hz2];omega) (by omega) w;rw[hz1,Nat.mul_one,show (Value.slice none 0 0).cells = #[.slice none 0 0] from rfl,Wr] at this;exact this
def NwV (pb B:Nat) (fA:Option Addr) (fn fc:Nat) (mA:Option Addr) (ml:List (Int×Int)) (mc:Nat) (cA:Option Addr) (cn cc:Nat) (sz:Int) (i:Nat) (v:Value) (W:World):Prop :=
 match i with
 | 0=>v=.pointer (some ⟨pb,0,none⟩)
 | 1=>v=.slice fA fn fc
 | 2=>v=.int .i64 fn
 | 3=>W.ownsRow B 24 1 v fn (List.replicate fn (.slice none 0 0))
 | 4=>v=.pointer (some ⟨pb,1,none⟩)
 | 5=>v=.slice mA ml.length mc
 | 6=>W.ownsRow B 96 2 v ml.length (pts ml)
 | 7=>∃ code,v=.agg #[code,.int .i64 0,.int .i64 0]∧W.ownsRow B 96 2 code ml.length (pts ml)
 | 8=>FrameAt B W v ml
 | 9=>v=.pointer (some ⟨pb,2,none⟩)
 | 10=>v=.slice cA cn cc
 | 11=>v=.int .i64 cn
 | 12=>W.ownsRow B 3 1 v cn (ints (List.replicate cn 0))
 | 13=>v=.pointer (some ⟨pb,3,none⟩)
 | 14=>v=.int .i64 sz
 | 15=>v=.int .i64 (k32 sz)
 | 16=>∃ db,v=.map (some db)∧Deeds W (Oj B W) db
 | 17=>∃ fu fr cv db,v=.agg #[fu,fr,.slice none 0 0,.slice none 0 0,.slice none 0 0,.slice none 0 0,.slice none 0 0,cv,.int .i64 0,.int .i64 0,.int .i64 0,.int .i64 0,.int .i64 0,.int .i64 0,.int .i64 0,.int .i64 0,.int .i64 0,.int .i64 0,.int .i64 0,.int .i64 0,.int .i64 0,.int .i64 0,.int .i64 0,.int .i64 0,.int .i64 0,.int .i64 0,.int .i64 0,.int .i64 0,.int .i64 0,.int .i64 0,.int .i64 0,.int .i64 0,.int .i64 0,.int .i64 0,.int .i64 0,.int .i64 0,.int .i64 0,.int .i64 0,.int .i64 0,.int .i64 0,.slice none 0 0,.int .i64 (k32 sz),.int .i64 0,.int .i64 0,.int .i64 1,.int .i64 0,.int .i64 0,.bool false,.int .i64 0,.map (some db)]∧W.ownsRow B 24 1 fu fn (List.replicate fn (.slice none 0 0))∧FrameAt B W fr ml∧W.ownsRow B 3 1 cv cn (ints (List.replicate cn 0))∧Deeds W (Oj B W) db
 | 18=>∃ mb fu fr cv db,v=.pointer (some ⟨mb,0,none⟩)∧B≤mb∧Blk W mb 212 #[fu,fr,.slice none 0 0,.slice none 0 0,.slice none 0 0,.slice none 0 0,.slice none 0 0,cv,.int .i64 0,.int .i64 0,.int .i64 0,.int .i64 0,.int .i64 0,.int .i64 0,.int .i64 0,.int .i64 0,.int .i64 0,.int .i64 0,.int .i64 0,.int .i64 0,.int .i64 0,.int .i64 0,.int .i64 0,.int .i64 0,.int .i64 0,.int .i64 0,.int .i64 0,.int .i64 0,.int .i64 0,.int .i64 0,.int .i64 0,.int .i64 0,.int .i64 0,.int .i64 0,.int .i64 0,.int .i64 0,.int .i64 0,.int .i64 0,.int .i64 0,.int .i64 0,.slice none 0 0,.int .i64 (k32 sz),.int .i64 0,.int .i64 0,.int .i64 1,.int .i64 0,.int .i64 0,.bool false,.int .i64 0,.map (some db)]∧W.ownsRow B 24 1 fu fn (List.replicate fn (.slice none 0 0))∧FrameAt B W fr ml∧W.ownsRow B 3 1 cv cn (ints (List.replicate cn 0))∧Deeds W (Oj B W) db
 | _=>True
theorem NwV.grow {pb B:Nat} {fA:Option Addr} {fn fc:Nat} {mA:Option Addr} {ml:List (Int×Int)} {mc:Nat} {cA:Option Addr} {cn cc:Nat} {sz:Int} {i:Nat} {v:Value} {W W':World} (h:NwV pb B fA fn fc mA ml mc cA cn cc sz i v W) (hg:Grow W W'):NwV pb B fA fn fc mA ml mc cA cn cc sz i v W':=by
 match i with
 | 0|1|2|4|5|9|10|11|13|14|15=>exact h
 | 3|6|12=>exact Bc h hg
 | 7=>obtain⟨code,e,h1⟩:=h;exact⟨code,e,Bc h1 hg⟩
 | 8=>exact FrameAt.grow h hg
 | 16=>obtain⟨db,e,h1⟩:=h;exact⟨db,e,Gd h1 hg⟩
 | 17=>obtain⟨fu,fr,cv,db,e,h1,h2,h3,h4⟩:=h;exact⟨fu,fr,cv,db,e,Bc h1 hg,h2.grow hg,Bc h3 hg,Gd h4 hg⟩
 | 18=>obtain⟨mb,fu,fr,cv,db,e,hB,hb,h1,h2,h3,h4⟩:=h;exact⟨mb,fu,fr,cv,db,e,hB,hg.blk hb (fun x=>x),Bc h1 hg,h2.grow hg,Bc h3 hg,Gd h4 hg⟩
 | i+19=>trivial
def st0 (fn:Nat) (ml:List (Int×Int)) (cn:Nat) (sz:Int):St :=
 {funcs:=List.replicate fn [],frames:=[⟨ml,0,0⟩],org:=[],cur:=[],touch:=[],ends:=[],cont:=[],cvt:=List.replicate cn 0,store:=List.replicate 32 0,stack:=[],size:=k32 sz,look:=0,move:=0,mode:=1,steps:=0,peak:=0,ended:=false,err:=0 }
theorem Nw {W:World} {O:Nat→Prop}:∀ n,Codes W O (List.replicate n (.slice none 0 0)) (List.replicate n [])
 | 0=>trivial
 | n+1=>⟨⟨Di _ _ _ _,fun g h=>by simp[Value.ownBlock] at h⟩,Nw n⟩
theorem Vm {W:World} {B size n:Nat} {t:TypeId} {v:Value} {xs:List Value} (h:W.ownsRow B t size v n xs):Row W (Oj B W) t size v n xs :=
 ⟨Bj h (Nat.zero_le _),fun g hg=>h.lt g hg⟩
theorem Hk {W:World} {O:Nat→Prop} {size:Nat} {t:TypeId}:Row W O t size (.slice none 0 0) 0 []:=⟨Di _ _ _ _,fun g h=>by simp[Value.ownBlock] at h⟩
theorem MaL.start {W:World} {B mb fn cn:Nat} {ml:List (Int×Int)} {sz:Int} {fu fr cv:Value} {db:Nat} (hB:B≤mb) (hb:Blk W mb 212 #[fu,fr,.slice none 0 0,.slice none 0 0,.slice none 0 0,.slice none 0 0,.slice none 0 0,cv,.int .i64 0,.int .i64 0,.int .i64 0,.int .i64 0,.int .i64 0,.int .i64 0,.int .i64 0,.int .i64 0,.int .i64 0,.int .i64 0,.int .i64 0,.int .i64 0,.int .i64 0,.int .i64 0,.int .i64 0,.int .i64 0,.int .i64 0,.int .i64 0,.int .i64 0,.int .i64 0,.int .i64 0,.int .i64 0,.int .i64 0,.int .i64 0,.int .i64 0,.int .i64 0,.int .i64 0,.int .i64 0,.int .i64 0,.int .i64 0,.int .i64 0,.int .i64 0,.slice none 0 0,.int .i64 (k32 sz),.int .i64 0,.int .i64 0,.int .i64 1,.int .i64 0,.int .i64 0,.bool false,.int .i64 0,.map (some db)])
  (h1:W.ownsRow B 24 1 fu fn (List.replicate fn (.slice none 0 0))) (h2:FrameAt B W fr ml) (h3:W.ownsRow B 3 1 cv cn (ints (List.replicate cn 0))) (h4:Deeds W (Oj B W) db) (hfn:fn≤1000000) (hcn:cn≤1000000) (hml:ml.length≤1000000) :
  ∃ L,L.fu=fu∧L.cv=cv∧MaL W mb (Oj B W) L (st0 fn ml cn sz):=by
 obtain⟨fb,code,rfl,k1,k2,k3⟩:=h2;refine⟨⟨_,fu,List.replicate fn (.slice none 0 0),.slice (some ⟨fb,0,none⟩) 1 1,[code],.slice none 0 0,.slice none 0 0,.slice none 0 0,.slice none 0 0,.slice none 0 0,cv,.slice none 0 0,db⟩,rfl,rfl,⟨⟨hB,hb.lt⟩,fun k hk=>hk.2,hb,?_,?_,?_,Hk,Hk,Hk,Hk,Hk,?_,Hk,Nw fn,⟨Vm k3,trivial⟩,apart_nil,apart_nil,apart_nil,apart_nil,apart_nil,apart_nil,apart_nil.symm,h4,?_⟩⟩
 ·refine⟨rfl,rfl,fun i x hx=>?_,rfl,rfl,rfl,rfl,rfl,rfl,rfl,rfl,rfl,rfl,rfl,rfl,rfl,rfl,rfl,rfl,rfl,rfl⟩;have hi:i<32:=by have:=(List.getElem?_eq_some_iff.1 hx).1;simpa [st0] using this
  have hx0:x=0:=by
   simp only[st0,List.getElem?_replicate] at hx;rw[if_pos hi] at hx;exact(Option.some.inj hx).symm
  subst hx0;simp only;clear hx
  match i,hi with
  | 0,_=>rfl
  | 1,_=>rfl
  | 2,_=>rfl
  | 3,_=>rfl
  | 4,_=>rfl
  | 5,_=>rfl
  | 6,_=>rfl
  | 7,_=>rfl
  | 8,_=>rfl
  | 9,_=>rfl
  | 10,_=>rfl
  | 11,_=>rfl
  | 12,_=>rfl
  | 13,_=>rfl
  | 14,_=>rfl
  | 15,_=>rfl
  | 16,_=>rfl
  | 17,_=>rfl
  | 18,_=>rfl
  | 19,_=>rfl
  | 20,_=>rfl
  | 21,_=>rfl
  | 22,_=>rfl
  | 23,_=>rfl
  | 24,_=>rfl
  | 25,_=>rfl
  | 26,_=>rfl
  | 27,_=>rfl
  | 28,_=>rfl
  | 29,_=>rfl
  | 30,_=>rfl
  | 31,_=>rfl
  | n+32,h=>omega
 ·simp only[st0,List.length_replicate];exact Vm h1
 ·refine⟨⟨by simp[st0,frC],.inr ⟨fb,1,_,rfl,Nat.zero_le _,k1,Ad,by unfold maxLen;omega,rfl,by simp[st0,frC]⟩⟩,fun g hg=>?_⟩;simp only[Value.ownBlock,Option.some.injEq] at hg;subst hg;exact⟨k2,k1.lt⟩
 ·simp only[st0,List.length_replicate];exact Vm h3
 ·have z0:K32 0:=by unfold K32;omega
  refine⟨by simp[st0],by simp[st0],fun x hx=>?_,fun x hx=>?_,by simp[st0],by simp[st0],by simp[st0],rfl,by simp[st0],rfl,Db sz,by simp[st0],by simp[st0],by simp[st0],by simp[st0],fun f hf=>?_,by simp[st0],fun c hc=>?_,by simpa [st0] using hfn,by simp[st0],by simp[st0],by simp[st0],by simpa [st0] using hcn,by simp[st0]⟩
  ·rw[List.eq_of_mem_replicate hx];exact z0
  ·rw[List.eq_of_mem_replicate hx];exact z0
  ·simp only[st0,List.mem_singleton] at hf;subst hf;exact⟨Nat.zero_le _,Nat.zero_le _,hml⟩
  ·rw[List.eq_of_mem_replicate hc];simp
structure PgAt (W:World) (B:Nat) (p:Pg) (fA mA cA:Option Addr):Prop where
 fl:∃ cs:List Value,Reads W B 1 fA p.funcs.length cs∧∀ (i:Nat) code,p.funcs[i]?=some code→∃ A c,cs[i]?=some (.slice A code.length c)∧Reads W B 2 A code.length (pts code)
 main:Reads W B 2 mA p.main.length (pts p.main)
 cvt:Reads W B 1 cA p.cvt.length (ints p.cvt)
structure PgOk (p:Pg):Prop where
 fl:p.funcs.length≤1000000
 fc:∀ c∈p.funcs,c.length≤1000000
 main:p.main.length≤1000000
 cvt:p.cvt.length≤1000000
theorem PgAt.keep {W W':World} {B:Nat} {p:Pg} {fA mA cA:Option Addr} (h:PgAt W B p fA mA cA) (hk:∀ q:Addr,q.block<B→W'.cell? q=W.cell? q):PgAt W' B p fA mA cA:=by
 obtain⟨⟨cs,h1,h2⟩,h3,h4⟩:=h;exact⟨⟨cs,h1.keep hk,fun i code hc=>by obtain⟨A,c,a,b⟩:=h2 i code hc;exact⟨A,c,a,b.keep hk⟩⟩,h3.keep hk,h4.keep hk⟩
def Yt (w:World) (p:Pg) (z:Zn) (e:Ending) (w':World):Prop :=
 ∃ mb O L,e=.returned (.pointer (some ⟨mb,0,none⟩))∧MaL w' mb O L (begin_ p z)∧(∀ k,O k→w.heap.size≤k)∧Below w.heap.size w w'
def stF (p:Pg) (k:Nat):St := { st0 p.funcs.length p.main p.cvt.length p.size with funcs:=mk p.funcs.length k (fun j=>p.funcs.getD j []) [] }
theorem Ot (p:Pg) (k:Nat):(stF p k).funcs.length=p.funcs.length:=Cs _ _ _ _
theorem Zr (p:Pg):stF p 0=st0 p.funcs.length p.main p.cvt.length p.size:=by unfold stF;rw[Jl];rfl
theorem Zec {p:Pg} {k:Nat} {code:List (Int×Int)} (h:k<p.funcs.length) (hc:p.funcs[k]?=some code):{ stF p k with funcs:=(stF p k).funcs.set k code } = stF p (k+1):=by
 have:=Hx (n:=p.funcs.length) (i:=k) (F:=fun j=>p.funcs.getD j []) (z:=[]) h;rw[show p.funcs.getD k []=code from Bs hc] at this;unfold stF;simp only;rw[this]
def stC (p:Pg) (k:Nat):St := { stF p p.funcs.length with cvt:=mk p.cvt.length k (fun j=>k32 (p.cvt.getD j 0)) 0 }
theorem Zee (p:Pg) (k:Nat):(stC p k).cvt.length=p.cvt.length:=Cs _ _ _ _
theorem Zs (p:Pg):stC p 0=stF p p.funcs.length:=by unfold stC;rw[Jl];rfl
theorem Zed {p:Pg} {k:Nat} {x:Int} (h:k<p.cvt.length) (hx:p.cvt[k]?=some x):{ stC p k with cvt:=(stC p k).cvt.set k (k32 x) } = stC p (k+1):=by
 have:=Hx (n:=p.cvt.length) (i:=k) (F:=fun j=>k32 (p.cvt.getD j 0)) (z:=0) h;rw[show p.cvt.getD k 0=x from Bs hx] at this;unfold stC;simp only;rw[this]
theorem Kv {α:Type} (l:List α) (d:α):(List.range l.length).map (fun j=>l.getD j d)=l:=by
 refine List.ext_getElem? fun j=>?_
 rw[List.getElem?_map];rcases Nat.lt_or_ge j l.length with hj|hj
 ·rw[List.getElem?_range hj,List.getElem?_eq_getElem hj];simp only[Option.map_some,List.getD_eq_getElem?_getD,List.getElem?_eq_getElem hj,Option.getD_some]
 ·rw[List.getElem?_eq_none (by simpa using hj),List.getElem?_eq_none hj];rfl
theorem Zef (p:Pg) (z:Zn):{ stC p p.cvt.length with org:=(List.range z.cur.length).map (oF z),cur:=z.cur.map k2,touch:=(List.range z.cur.length).map (tF z),ends:=z.ends,cont:=conts z.cur.length (-1) z.ends } = begin_ p z:=by
 unfold stC stF begin_;rw[Pk,Pk];have e1:(List.range p.cvt.length).map (fun j=>k32 (p.cvt.getD j 0))=p.cvt.map k32:=by
  have:=congrArg (List.map k32) (Kv p.cvt 0);rw[List.map_map] at this;exact this
 rw[e1,Kv];rfl
def Zfp (w:World) (p:Pg) (z:Zn) (mb B1:Nat) (fA:Option Addr) (fc:Nat) (mA:Option Addr) (mc:Nat) (cA:Option Addr) (cc:Nat) (oA:Option Addr) (oc:Nat) (uA:Option Addr) (uc:Nat) (tA:Option Addr) (tc:Nat) (eA:Option Addr) (ec:Nat) (fu cv:Value) (i:Value) (wr:World):Prop :=
 ∃ (k:Nat) (L:Lay),k≤p.funcs.length∧i=.int .i64 k∧L.fu=fu∧L.cv=cv∧MaL wr mb (Oj B1 wr) L (stF p k) ∧
  Blk wr w.heap.size 26 #[.slice fA p.funcs.length fc,.slice mA p.main.length mc,.slice cA p.cvt.length cc,.int .i64 p.size]∧Blk wr (w.heap.size+1) 30 #[.slice oA z.org.length oc,.slice uA z.cur.length uc,.slice tA z.touch.length tc,.slice eA z.ends.length ec]∧Grow w wr∧B1≤wr.heap.size
def Zfq (w:World) (p:Pg) (z:Zn) (mb B1:Nat) (fA:Option Addr) (fc:Nat) (mA:Option Addr) (mc:Nat) (cA:Option Addr) (cc:Nat) (oA:Option Addr) (oc:Nat) (uA:Option Addr) (uc:Nat) (tA:Option Addr) (tc:Nat) (eA:Option Addr) (ec:Nat) (cv:Value) (i:Value) (wr:World):Prop :=
 ∃ (k:Nat) (L:Lay),k≤p.cvt.length∧i=.int .i64 k∧L.cv=cv∧MaL wr mb (Oj B1 wr) L (stC p k) ∧
  Blk wr w.heap.size 26 #[.slice fA p.funcs.length fc,.slice mA p.main.length mc,.slice cA p.cvt.length cc,.int .i64 p.size]∧Blk wr (w.heap.size+1) 30 #[.slice oA z.org.length oc,.slice uA z.cur.length uc,.slice tA z.touch.length tc,.slice eA z.ends.length ec]∧Grow w wr∧B1≤wr.heap.size
theorem MaL.fuAt {w:World} {mb:Nat} {O:Nat→Prop} {L:Lay} {s:St} (h:MaL w mb O L s) {g n c:Nat} (hv:L.fu=.slice (some ⟨g,0,none⟩) n c) {i:Nat} (hi:i<s.funcs.length) :
  (∃ u,w.cell? ⟨g,i,none⟩=some u)∧w.frozen? ⟨g,i,none⟩=false∧g<w.heap.size:=by
 obtain⟨g',c',e,_,_,_,hl,hc,hf⟩:=h.fu.at_ (by omega);rw[hv] at e
 injection e with e e2 e3
 clear e2 e3
 injection e with e
 injection e with e e2
 subst e;have hlen:=h.fuc.len;exact⟨⟨_,hc i _ (List.getElem?_eq_getElem (by omega))⟩,hf _,hl⟩
theorem Wj (w:World) (p:Pg) (z:Zn) (hp:PgOk p) (hz:ZnOk z) (fA mA cA oA tA eA uA:Option Addr) (fc mc cc oc tc ec uc:Nat) (hpa:PgAt w w.heap.size p fA mA cA) (hza:ZnAt w w.heap.size z oA uA tA eA) :
  Calls Tryz.prog 70 #[.agg #[.slice fA p.funcs.length fc,.slice mA p.main.length mc,.slice cA p.cvt.length cc,.int .i64 p.size],.agg #[.slice oA z.org.length oc,.slice uA z.cur.length uc,.slice tA z.touch.length tc,.slice eA z.ends.length ec]] w (Yt w p z):=by
 have HPK:=Aa hp;have HZK:=Aa hz;obtain⟨n1,n2,n3,n4⟩:=hp;have HN2:=Aa n2;clear n2;have HMF:=Aa (Tg p.funcs.length n1);have HMC:=Aa (Ha p.cvt.length n4);obtain⟨X,hX⟩:∃ X,X=(w.alloc (.cells #[.slice fA p.funcs.length fc,.slice mA p.main.length mc,.slice cA p.cvt.length cc,.int .i64 p.size] 26)).alloc (.cells #[.slice oA z.org.length oc,.slice uA z.cur.length uc,.slice tA z.touch.length tc,.slice eA z.ends.length ec] 30):=⟨_,rfl⟩;have hXz:X.heap.size=w.heap.size+1+1:=by rw[hX];simp
 have hXG:Grow w X:=by rw[hX];exact((Fr.refl _ w).alloc _).alloc _
 have hbp:Blk X w.heap.size 26 #[.slice fA p.funcs.length fc,.slice mA p.main.length mc,.slice cA p.cvt.length cc,.int .i64 p.size]:=by rw[hX];exact(Blk.new _ _ _).alloc _
 have hbz:Blk X (w.heap.size+1) 30 #[.slice oA z.org.length oc,.slice uA z.cur.length uc,.slice tA z.touch.length tc,.slice eA z.ends.length ec]:=by rw[hX];exact Blk.new_at _ _ _ (by simp)
 have HXG:=Aa hXG;have HBP:=Aa hbp;have HBZ:=Aa hbz;have HPA:=Aa (hpa.keep (W':=X) fun q hq=>hXG.cell hq (fun x=>x));have HZA:=Aa (hza.keep (W':=X) fun q hq=>hXG.cell hq (fun x=>x));have HX:=Aa hX;have HPA0:=Aa hpa;have HZA0:=Aa hza;clear hX hXG hbp hbz hpa hza hz;go_enter Tryz.func70,Tryz.ntmps70;go_wp2_with fail
 rw[←HX.out];refine Ke (NwV w.heap.size X.heap.size fA p.funcs.length fc mA p.main mc cA p.cvt.length cc p.size) (fun W=>Grow X W) Grow (by as_aux_lemma=>kernel_rfl) (by as_aux_lemma=>kernel_rfl) 19 rfl ?_ ?_ ?_ ?_
 ·intro i v W W' hv hr;exact hv.grow hr
 ·exact(Fr.refl _ _).drew
 ·intro j ev val W hj hG hev hd;have _e2:ev (.tmp 2)=.pointer (some ⟨w.heap.size,0,none⟩):=hev.other 2 (by kernel_rfl);have _ec:=hev.const;have _ef:=hev.func;have hbp:=hG.blk HBP.out (fun x=>x);have z0:=Ab hbp 0 rfl;have z1:=Ab hbp 1 rfl;have z2:=Ab hbp 2 rfl;have z3:=Ab hbp 3 rfl;have hzl:=hbp.lt;have HGG:=Aa hG;have HMR:=Aa HPA.out.main;have HXZ:=Aa hXz;clear hG hbp hXz
  match j,hj with
  | 0,_ =>
   refine⟨_,rfl,rfl,?_⟩;unfold Ar;go_simp;exact⟨rfl,HGG.out,Fr.refl _ _⟩
  | 1,_ =>
   have d0:=hd 0 (by kernel_rfl);have x0:=hev.dep 0 10 (by kernel_rfl) (by kernel_rfl);simp only[NwV] at d0;rw[d0] at x0;refine⟨_,rfl,rfl,?_⟩;unfold Ar;go_simp;exact⟨rfl,HGG.out,Fr.refl _ _⟩
  | 2,_ =>
   have d1:=hd 1 (by kernel_rfl);have x1:=hev.dep 1 11 (by kernel_rfl) (by kernel_rfl);simp only[NwV] at d1;rw[d1] at x1;refine⟨_,rfl,rfl,?_⟩;unfold Ar;go_simp;exact⟨rfl,HGG.out,Fr.refl _ _⟩
  | 3,_ =>
   have d2:=hd 2 (by kernel_rfl);have x2:=hev.dep 2 12 (by kernel_rfl) (by kernel_rfl);simp only[NwV] at d2;rw[d2] at x2;have hmk:=HMF.out W;refine⟨_,rfl,rfl,?_⟩;unfold Ar;go_simp;exact⟨Cx (by simp) (by have:=HGG.out.size;have:=HXZ.out;omega) (by unfold maxLen;omega),HGG.out.alloc _,(Fr.refl _ _).alloc _⟩
  | 4,_ =>
   refine⟨_,rfl,rfl,?_⟩;unfold Ar;go_simp;exact⟨rfl,HGG.out,Fr.refl _ _⟩
  | 5,_ =>
   have d4:=hd 4 (by kernel_rfl);have x4:=hev.dep 4 14 (by kernel_rfl) (by kernel_rfl);simp only[NwV] at d4;rw[d4] at x4;refine⟨_,rfl,rfl,?_⟩;unfold Ar;go_simp;exact⟨rfl,HGG.out,Fr.refl _ _⟩
  | 6,_ =>
   have d5:=hd 5 (by kernel_rfl);have x5:=hev.dep 5 15 (by kernel_rfl) (by kernel_rfl);simp only[NwV] at d5;rw[d5] at x5;have HRE:=Aa (HMR.out.keep fun p hp=>HGG.out.cell (by have:=HXZ.out;omega) (fun x=>x));refine⟨_,rfl,rfl,?_⟩;unfold Ar;go_simp;refine(Ny W mA _ mc _ _ HRE.out (Lq _) (by omega)).mono ?_;rintro e w5 ⟨v5,rfl,ho5,hg5⟩;exact⟨_,rfl,Bj ho5 (by have:=HGG.out.size;have:=HXZ.out;omega),HGG.out.trans hg5,hg5⟩
  | 7,_ =>
   have d6:=hd 6 (by kernel_rfl);have x6:=hev.dep 6 16 (by kernel_rfl) (by kernel_rfl);simp only[NwV] at d6;obtain⟨A1,c1,hv1⟩:∃ A c,val 6=.slice A _ c:=by obtain⟨A,c,e,_⟩:=Ae d6;exact⟨A,c,e⟩
   rw[hv1] at x6 d6;have H6:=Aa d6;clear d6;refine⟨_,rfl,rfl,?_⟩;unfold Ar;go_simp;exact⟨⟨_,rfl,H6.out⟩,HGG.out,Fr.refl _ _⟩
  | 8,_ =>
   have d7:=hd 7 (by kernel_rfl);have x7:=hev.dep 7 17 (by kernel_rfl) (by kernel_rfl);simp only[NwV] at d7;obtain⟨code,hv7,h7⟩:=d7;obtain⟨A1,c1,rfl,_⟩:=Ae h7;rw[hv7] at x7;have H7:=Aa h7;clear h7;refine⟨_,rfl,rfl,?_⟩;unfold Ar;go_simp;exact⟨⟨_,_,rfl,Blk.new _ _ _,by have:=HGG.out.size;have:=HXZ.out;omega,Bc H7.out ((Fr.refl _ _).alloc _)⟩,HGG.out.alloc _,(Fr.refl _ _).alloc _⟩
  | 9,_ =>
   refine⟨_,rfl,rfl,?_⟩;unfold Ar;go_simp;exact⟨rfl,HGG.out,Fr.refl _ _⟩
  | 10,_ =>
   have d9:=hd 9 (by kernel_rfl);have x9:=hev.dep 9 19 (by kernel_rfl) (by kernel_rfl);simp only[NwV] at d9;rw[d9] at x9;refine⟨_,rfl,rfl,?_⟩;unfold Ar;go_simp;exact⟨rfl,HGG.out,Fr.refl _ _⟩
  | 11,_ =>
   have d10:=hd 10 (by kernel_rfl);have x10:=hev.dep 10 20 (by kernel_rfl) (by kernel_rfl);simp only[NwV] at d10;rw[d10] at x10;refine⟨_,rfl,rfl,?_⟩;unfold Ar;go_simp;exact⟨rfl,HGG.out,Fr.refl _ _⟩
  | 12,_ =>
   have d11:=hd 11 (by kernel_rfl);have x11:=hev.dep 11 21 (by kernel_rfl) (by kernel_rfl);simp only[NwV] at d11;rw[d11] at x11;have hmk:=HMC.out W;refine⟨_,rfl,rfl,?_⟩;unfold Ar;go_simp;exact⟨Cx (by rw[Bw,List.length_replicate,Nat.mul_one]) (by have:=HGG.out.size;have:=HXZ.out;omega) (by unfold maxLen;omega),HGG.out.alloc _,(Fr.refl _ _).alloc _⟩
  | 13,_ =>
   refine⟨_,rfl,rfl,?_⟩;unfold Ar;go_simp;exact⟨rfl,HGG.out,Fr.refl _ _⟩
  | 14,_ =>
   have d13:=hd 13 (by kernel_rfl);have x13:=hev.dep 13 23 (by kernel_rfl) (by kernel_rfl);simp only[NwV] at d13;rw[d13] at x13;refine⟨_,rfl,rfl,?_⟩;unfold Ar;go_simp;exact⟨rfl,HGG.out,Fr.refl _ _⟩
  | 15,_ =>
   have d14:=hd 14 (by kernel_rfl);have x14:=hev.dep 14 24 (by kernel_rfl) (by kernel_rfl);simp only[NwV] at d14;rw[d14] at x14;refine⟨_,rfl,rfl,?_⟩;unfold Ar;go_simp;refine(Ga _ _).mono ?_;rintro e w5 ⟨rfl,rfl⟩;exact⟨_,rfl,rfl,HGG.out,Fr.refl _ _⟩
  | 16,_ =>
   refine⟨_,rfl,rfl,?_⟩;unfold Ar;go_simp;refine(Xz W).mono ?_;rintro e w5 ⟨rfl,hd5⟩;have hg5:Grow W w5:=hd5.grow;exact⟨_,rfl,⟨_,rfl,hd5.deeds (by have:=HGG.out.size;have:=HXZ.out;omega)⟩,HGG.out.trans hg5,hg5⟩
  | 17,_ =>
   have d3:=hd 3 (by kernel_rfl);have x3:=hev.dep 3 13 (by kernel_rfl) (by kernel_rfl);simp only[NwV] at d3;have d8:=hd 8 (by kernel_rfl);have x8:=hev.dep 8 18 (by kernel_rfl) (by kernel_rfl);simp only[NwV] at d8;have d12:=hd 12 (by kernel_rfl);have x12:=hev.dep 12 22 (by kernel_rfl) (by kernel_rfl);simp only[NwV] at d12;have d15:=hd 15 (by kernel_rfl);have x15:=hev.dep 15 25 (by kernel_rfl) (by kernel_rfl);simp only[NwV] at d15;have d16:=hd 16 (by kernel_rfl);have x16:=hev.dep 16 26 (by kernel_rfl) (by kernel_rfl);simp only[NwV] at d16;obtain⟨A3,c3,hv3⟩:∃ A c,val 3=.slice A _ c:=by obtain⟨A,c,e,_⟩:=Ae d3;exact⟨A,c,e⟩
   rw[hv3] at x3 d3;obtain⟨fb,code,hv8,h8⟩:=d8;rw[hv8] at x8;obtain⟨A12,c12,hv12⟩:∃ A c,val 12=.slice A _ c:=by obtain⟨A,c,e,_⟩:=Ae d12;exact⟨A,c,e⟩
   rw[hv12] at x12 d12;rw[d15] at x15;obtain⟨db,hv16,h16⟩:=d16;rw[hv16] at x16;have H3:=Aa d3;have H8:=Aa h8;have H12:=Aa d12;have H16:=Aa h16;clear d3 h8 d12 h16;refine⟨_,rfl,rfl,?_⟩;unfold Ar;go_simp;exact⟨⟨_,_,_,db,rfl,H3.out,⟨fb,code,rfl,H8.out⟩,H12.out,H16.out⟩,HGG.out,Fr.refl _ _⟩
  | 18,_ =>
   have d17:=hd 17 (by kernel_rfl);have x17:=hev.dep 17 27 (by kernel_rfl) (by kernel_rfl);simp only[NwV] at d17;obtain⟨fu,fr,cv,db,hv17,h1,h2,h3,h4⟩:=d17;obtain⟨A3,c3,rfl,_⟩:=Ae h1;obtain⟨fb,code,rfl,h2⟩:=h2;obtain⟨A12,c12,rfl,_⟩:=Ae h3;rw[hv17] at x17;have H1:=Aa h1;have H2:=Aa h2;have H3:=Aa h3;have H4:=Aa h4;clear h1 h2 h3 h4;refine⟨_,rfl,rfl,?_⟩;unfold Ar;go_simp;exact⟨⟨_,_,_,_,db,rfl,by have:=HGG.out.size;have:=HXZ.out;omega,Blk.new _ _ _,Bc H1.out ((Fr.refl _ _).alloc _),FrameAt.grow ⟨fb,code,rfl,H2.out⟩ ((Fr.refl _ _).alloc _),Bc H3.out ((Fr.refl _ _).alloc _),Gd H4.out ((Fr.refl _ _).alloc _)⟩,HGG.out.alloc _,(Fr.refl _ _).alloc _⟩
  | i+19,hi=>exact absurd hi (by simp)
 ·intro val W hG hV;have v18:=hV 18 (by simp);simp only[NwV] at v18;obtain⟨mb,fu,fr,cv,db,hv,hB,hb,h1,h2,h3,h4⟩:=v18;obtain⟨L,hLf,hLc,hM⟩:=MaL.start hB hb h1 h2 h3 h4 n1 n4 n3;have hWG:=HXG.out.trans hG;have HF0:Hid (Zfp w p z mb X.heap.size fA fc mA mc cA cc oA oc uA uc tA tc eA ec fu cv (.int .i64 0) W):=Aa ⟨0,L,Nat.zero_le _,rfl,hLf,hLc,by rw[Zr];exact hM,hG.blk HBP.out (fun x=>x),hG.blk HBZ.out (fun x=>x),hWG,hG.size⟩;obtain⟨fuA,fuc,hfu,_,_⟩:=Ae h1;obtain⟨cvA,cvc,hcv,_,_⟩:=Ae h3;have hbpW:=hG.blk HBP.out (fun x=>x);have z0:=Ab hbpW 0 rfl;have hzl:=hbpW.lt;clear hV hG hb h1 h2 h3 h4 hM hWG hLf hLc hbpW HMF HMC;unfold wpOp;change (if _ then _ else _);rw[if_pos (by kernel_rfl)];refine .inl ?_;simp only[Nq,Eb,List.getElem?_toArray,List.getElem?_cons_zero,List.getElem?_cons_succ,Option.bind_some];go_simp;go_wp2_with fail
  clear z0 hzl;go_loopw [32] (fun i wr=>Zfp w p z mb X.heap.size fA fc mA mc cA cc oA oc uA uc tA tc eA ec fu cv i wr) (fun i _=>p.funcs.length-(intOf i).toNat)
  case atStart=>exact HF0.out
  case round =>
   clear HF0;obtain⟨k,L1,hk,rfl,hLf,hLc,hm,hbp,hbz,hgw,hxw⟩:=hrel;by_cases hlt:(k:Int)<p.funcs.length
   ·obtain⟨code,hcode⟩:∃ c,p.funcs[k]?=some c:=⟨_,List.getElem?_eq_getElem (by omega)⟩;have hpa:=HPA0.out.keep (W':=wr) fun q hq=>hgw.cell hq (fun x=>x)
    obtain⟨cs,hrd,hel⟩:=hpa.fl;obtain⟨Ac,ccap,hcs,hrc⟩:=hel k code hcode;obtain⟨fb,fo,hfA,hfb,hfcell⟩:=hrd.at_ (by omega);subst hfA;have x0:=hfcell _ _ hcs;have hfbl:fb<wr.heap.size:=by omega
    have hlc:code.length≤1000000:=HN2.out code (List.mem_of_getElem? hcode);have hmfl:=Ot p k;obtain⟨gf,kf,hgf,hkf,_,hgfO,hgfl,_,_⟩:=hm.fu.at_ (by rw[hmfl];omega);rw[hmfl] at hgf hkf;have c0:=hm.blk.cell 0;rw[hm.c.c0,hgf] at c0;have hlm:=hm.blk.lt;have hgm:gf≠mb:=hm.fu.ne_blk hm.blk (by decide) (by rw[hgf];rfl);have HM:=Aa hm;have HRC:=Aa hrc;have HGF:=Aa hgf;have HLF:=Aa hLf;have HLC:=Aa hLc;have HBP1:=Aa hbp;have HBZ1:=Aa hbz;have HGW:=Aa hgw;have HCO:=Aa hcode;clear hm hrc hgf hLf hLc hbp hbz hgw hcode hfcell hcs hel hrd hpa hmfl;go_wp2_with fail
    go_region_held3 (fun w'=>w'.cell? ⟨mb,0,none⟩=some (.slice (some ⟨gf,0,none⟩) p.funcs.length kf)) (first|(go_keep;done)|(refine(World.cell?_setCell_other _ _ _ _ (by intro e;injection e with e;first|exact hgm e|exact hgm e.symm)).trans ?_;assumption))
     (first|(go_at_call 97;refine(Ny wr.drew Ac _ ccap _ _ HRC.out (Lq _) (by omega)).mono ?_;rintro e w5 ⟨v5,rfl,ho5,hg5⟩;have HO5:=Aa ho5;have HG5:=Aa hg5;obtain⟨A5,c5,hv5,_,_⟩:=Ae ho5;subst hv5;have HM5:=Aa (HM.out.drew.grow hg5);have c05:=HM5.out.blk.cell 0;rw[HM5.out.c.c0,HGF.out] at c05;obtain⟨r5,f5,l5⟩:=HM5.out.fuAt HGF.out (i:=k) (by rw[Ot];omega);obtain⟨u5,r5⟩:=r5;have lm5:=HM5.out.blk.lt;clear ho5 hg5))
    have HM6:Hid (MaL (w5.setCell ⟨gf,k,none⟩ (.slice A5 code.length c5)) mb (Oj X.heap.size (w5.setCell ⟨gf,k,none⟩ (.slice A5 code.length c5))) _ _):=Aa ((HM5.out.setFu HGF.out (i:=k) (O':=Oj X.heap.size w5) (v:=.slice A5 code.length c5) (code:=code) (by rw[Ot];omega) ⟨Bj HO5.out (Nat.zero_le _),fun g hg=>⟨by have:=(HO5.out.lt g hg).1;have:wr.drew.heap.size=wr.heap.size:=rfl;omega,(HO5.out.lt g hg).2⟩⟩ hlc (fun q hq=>⟨hq.1,by have:=hq.2;have:=HG5.out.size;have:wr.drew.heap.size=wr.heap.size:=rfl;omega⟩) (fun q hq=>hq.2)).mono (fun q hq=>by simpa [Oj,World.setCell] using hq) (fun q hq=>hq.2));have hne1:w.heap.size≠gf:=fun e=>by have:=hgfO.1;omega
    have hne2:w.heap.size+1≠gf:=fun e=>by have:=hgfO.1;omega
    have HFE:Hid (Zfp w p z mb X.heap.size (some ⟨fb,fo,none⟩) fc mA mc cA cc oA oc uA uc tA tc eA ec fu cv (.int .i64 ((k:Int)+1)) (w5.setCell ⟨gf,k,none⟩ (.slice A5 code.length c5))):=Aa (by
     refine⟨k+1,{ L1 with fus:=L1.fus.set k (.slice A5 code.length c5) },by omega,by simp,HLF.out,HLC.out,?_,((HG5.out.blk HBP1.out.drew (fun x=>x)).far (p:=⟨gf,k,none⟩) hne1 _),((HG5.out.blk HBZ1.out.drew (fun x=>x)).far (p:=⟨gf,k,none⟩) hne2 _),?_,?_⟩
     ·have:=HM6.out;rw[Zec (by omega) HCO.out] at this;exact this
     ·have hg:=HGW.out.drew.trans HG5.out;exact hg.setCell (.inr (by have:=hgfO.1;simp only;omega)) _
     ·have:=HG5.out.size;have:wr.drew.heap.size=wr.heap.size:=rfl;simp only[World.setCell,Array.size_modify];omega)
    clear HM6 HM5 HM HO5 HG5 HBP1 HBZ1 HGW HRC c0 c05 r5 f5 l5 lm5 x0;go_wp2_with fail
    go_roundw
    case rel=>exact HFE.out
    case measure=>simp[intOf];omega
   ·have hke:k=p.funcs.length:=by omega
    subst hke;have z2:=Ab hbp 2 rfl;have hzl:=hbp.lt;have HC0:Hid (Zfq w p z mb X.heap.size fA fc mA mc cA cc oA oc uA uc tA tc eA ec cv (.int .i64 0) wr):=Aa ⟨0,L1,Nat.zero_le _,rfl,hLc,by rw[Zs];exact hm,hbp,hbz,hgw,hxw⟩;clear hm hbp hbz hgw hxw hLf hLc;go_wp2_with fail
    clear z2 hzl;go_loopw [49] (fun i wr=>Zfq w p z mb X.heap.size fA fc mA mc cA cc oA oc uA uc tA tc eA ec cv i wr) (fun i _=>p.cvt.length-(intOf i).toNat)
    case atStart=>exact HC0.out
    case round =>
     clear HC0;obtain⟨k,L2,hk,rfl,hLc,hm,hbp,hbz,hgw,hxw⟩:=hrel;by_cases hlt:(k:Int)<p.cvt.length
     ·obtain⟨x,hx⟩:∃ c,p.cvt[k]?=some c:=⟨_,List.getElem?_eq_getElem (by omega)⟩;have hpa:=HPA0.out.keep (W':=wr) fun q hq=>hgw.cell hq (fun x=>x)
      obtain⟨cb,co,hcA,hcb,hcell⟩:=hpa.cvt.at_ (by omega);subst hcA;have x0:=hcell _ _ (Bf hx);have hcbl:cb<wr.heap.size:=by omega
      have hmcl:=Zee p k;obtain⟨gv,kv,hgv,hkv,_,hgvO,hgvl,hgvc,hgvf⟩:=hm.cv.at_ (by rw[hmcl];omega);rw[hmcl] at hgv hkv;have c7:=hm.blk.cell 7;rw[hm.c.c7,hgv] at c7;have hlm:=hm.blk.lt;have r0:=hgvc k _ (Bf (show (stC p k).cvt[k]?=some 0 by unfold stC;rw[Gi (by omega),if_neg (by omega)]));have f0:=hgvf k;have hne1:w.heap.size≠gv:=fun e=>by have:=hgvO.1;omega
      have hne2:w.heap.size+1≠gv:=fun e=>by have:=hgvO.1;omega
      have HCE:Hid (Zfq w p z mb X.heap.size fA fc mA mc (some ⟨cb,co,none⟩) cc oA oc uA uc tA tc eA ec cv (.int .i64 ((k:Int)+1)) ((wr.setCell ⟨gv,k,none⟩ (.int .i64 (k32 x))).drew)):=Aa (by
       refine⟨k+1,L2,by omega,by simp,hLc,?_,(hbp.far (p:=⟨gv,k,none⟩) hne1 _).drew,(hbz.far (p:=⟨gv,k,none⟩) hne2 _).drew,?_,?_⟩
       ·have:=(hm.setCv hgv (i:=k) (by rw[hmcl];omega) (Db x)).drew;rw[Zed (by omega) hx] at this;exact this.mono (fun q hq=>by simpa [Oj,World.setCell] using hq) (fun q hq=>hq.2)
       ·exact(hgw.setCell (.inr (by have:=hgvO.1;simp only;omega)) _).drew
       ·simp only[World.drew,World.setCell,Array.size_modify];exact hxw)
      clear hm hbp hbz hgw hxw hLc hcell hx hpa hgv hgvc hgvf hmcl;go_wp2_with fail
      go_still_tail 8,(by kernel_rfl)
      still_call (Eu x _)
      repeat still_step
      refine wpStill_nil ?_;change wpList _ _ _ _ _ wr.drew;go_wp2_with fail
      go_roundw
      case rel=>exact HCE.out
      case measure=>simp[intOf];omega
     ·have hke:k=p.cvt.length:=by omega
      subst hke;have q0:=Ab hbz 0 rfl;have q1:=Ab hbz 1 rfl;have q2:=Ab hbz 2 rfl;have q3:=Ab hbz 3 rfl;have hzl:=hbz.lt;have hwz:=hgw.size;have hza:=HZA0.out.keep (W':=wr) fun q hq=>hgw.cell hq (fun x=>x)
      have HPT:=Aa (Sy wr mb (Oj X.heap.size wr) L2 (stC p p.cvt.length) hm rfl z HZK.out w.heap.size hwz (fun k hk e=>by have:=e.1;omega) oA uA tA eA oc uc tc ec hza);have HGW:=Aa hgw;have HXW:=Aa hxw;clear hm hbp hbz hgw hxw hLc hza;go_wp2_with fail
      refine HPT.out.mono ?_;rintro e w9 ⟨rfl,⟨L9,hm9⟩,hf9⟩;rw[Zef] at hm9;have HE:Hid (Yt w p z (.returned (.pointer (some ⟨mb,0,none⟩))) w9):=Aa ⟨mb,_,L9,rfl,hm9,fun k hk=>by
       rcases hk with hk|hk
       ·have:=hk.1;omega
       ·have:=HGW.out.size;omega,by
       have h1:Below w.heap.size w wr:=Grow.below HGW.out Ad;exact h1.trans (hf9.below HGW.out.size (fun k hk e=>by have:=e.1;omega))⟩
      clear hm9 hf9 HPT;go_wp2;go_ret;exact HE.out
theorem Sh {s:St}:(Mc.step s).1.steps≤s.steps+1:=by
 rcases hn:next s with⟨s',o⟩
 cases o with
 | none =>
  rw[step_none hn];have:s'=(next s).1:=by rw[hn]
  simp only;rw[this];unfold next;split
  ·simp
  ·split
   ·simp
   ·simp
 | some ins =>
  rw[step_some hn];obtain⟨f,r,_,_,n,_,_,_,hb,_,hs,_⟩:=Ni (op:=ins.1) (a:=ins.2) hn;simp only;rw[(Lb ins.1 ins.2 (Ij s')).1,hb];simp only;omega
theorem Sc {n:Nat} {s s':St} (h:Mc.step s=(s',true)):Mc.steps (n+1) s=Mc.steps n s':=by
 conv=>lhs;unfold Mc.steps
 rw[h]
theorem Op {n:Nat} {s s':St} (h:Mc.step s=(s',false)):Mc.steps (n+1) s=(s',false):=by
 conv=>lhs;unfold Mc.steps
 rw[h]
theorem run_of {n:Nat} {s t:St} (h:Mc.steps n s=(t,false)):Mc.run n s=t:=by unfold Mc.run;rw[h]
theorem Zac {n:Nat} {s t u:St} (h:Mc.steps n s=(t,true)) (h2:next t=(u,none)):Mc.run n s=u:=by unfold Mc.run;rw[h];simp only;rw[h2]
theorem Zaa {n:Nat} {s t u:St} {i:Int×Int} (h:Mc.steps n s=(t,true)) (h2:next t=(u,some i)):Mc.run n s = { u with err:=53 } := by unfold Mc.run;rw[h];simp only;rw[h2]
theorem RanAt.mono {B B':Nat} {s:St} {W:World} {og cu to en cv st sk:Value} (h:RanAt B s W og cu to en cv st sk) (hb:B'≤B):RanAt B' s W og cu to en cv st sk :=
 ⟨Bj h.og hb,Bj h.cu hb,Bj h.to hb,Bj h.en hb,Bj h.cv hb,Bj h.st hb,Bj h.sk hb⟩
def MaN (w:World) (mb:Nat) (s:St) (wr:World):Prop:=∃ O L,MaL wr mb O L s∧(∀ k,O k→w.heap.size≤k)∧Below w.heap.size w wr
theorem MaN.step {w wr w':World} {mb:Nat} {s':St} {O:Nat→Prop} (hO:∀ k,O k→w.heap.size≤k) (hb:Below w.heap.size w wr) (hm:∃ L',MaL w' mb (ext O wr w') L' s') (hf:Fr O wr w'):MaN w mb s' w':=by
 obtain⟨L',hm⟩:=hm;exact⟨_,L',hm,fun k hk=>by
  rcases hk with hk|hk
  ·exact hO k hk
  ·have:=hb.size;omega,hb.trans (hf.below hb.size (fun k hk e=>by have:=hO k e;omega))⟩
theorem MaN.same {w wr w':World} {mb:Nat} {s':St} {O:Nat→Prop} (hO:∀ k,O k→w.heap.size≤k) (hb:Below w.heap.size w wr) (hm:∃ L',MaL w' mb O L' s') (hf:Fr O wr w'):MaN w mb s' w':=by
 obtain⟨L',hm⟩:=hm;exact⟨_,L',hm,hO,hb.trans (hf.below hb.size (fun k hk e=>by have:=hO k e;omega))⟩
def RunI (w w1:World) (mb N:Nat) (s:St) (i:Value) (wr:World):Prop :=
 ∃ (k:Nat) (t:St),k≤N∧i=.int .i64 k∧MaN w1 mb t wr∧Mc.steps N s=Mc.steps (N-k) t∧t.steps≤k∧Blk wr (w.heap.size+1+1) 39 #[.slice none 0 0,.slice none 0 0,.slice none 0 0,.slice none 0 0,.slice none 0 0,.slice none 0 0,.slice none 0 0,.int .i64 0,.int .i64 0,.int .i64 0]
theorem Zem (w:World) (p:Pg) (z:Zn) (hp:PgOk p) (hz:ZnOk z) (fA mA cA oA tA eA uA:Option Addr) (fc mc cc oc tc ec uc:Nat) (hpa:PgAt w w.heap.size p fA mA cA) (hza:ZnAt w w.heap.size z oA uA tA eA) (n:Int) (hN:n≤1000000) :
  Calls Tryz.prog 55 #[.agg #[.slice fA p.funcs.length fc,.slice mA p.main.length mc,.slice cA p.cvt.length cc,.int .i64 p.size],.agg #[.slice oA z.org.length oc,.slice uA z.cur.length uc,.slice tA z.touch.length tc,.slice eA z.ends.length ec],.int .i64 n] w (Qf w (Mc.run n.toNat (begin_ p z))):=by
 obtain⟨X,hX⟩:∃ X,X=((w.alloc (.cells #[.slice fA p.funcs.length fc,.slice mA p.main.length mc,.slice cA p.cvt.length cc,.int .i64 p.size] 26)).alloc (.cells #[.slice oA z.org.length oc,.slice uA z.cur.length uc,.slice tA z.touch.length tc,.slice eA z.ends.length ec] 30)).alloc (.cells #[.slice none 0 0,.slice none 0 0,.slice none 0 0,.slice none 0 0,.slice none 0 0,.slice none 0 0,.slice none 0 0,.int .i64 0,.int .i64 0,.int .i64 0] 39):=⟨_,rfl⟩;have hXz:X.heap.size=w.heap.size+1+1+1:=by rw[hX];simp
 have hXG:Grow w X:=by rw[hX];exact(((Fr.refl _ w).alloc _).alloc _).alloc _
 have hbp:Blk X w.heap.size 26 #[.slice fA p.funcs.length fc,.slice mA p.main.length mc,.slice cA p.cvt.length cc,.int .i64 p.size]:=by rw[hX];exact((Blk.new _ _ _).alloc _).alloc _
 have hbz:Blk X (w.heap.size+1) 30 #[.slice oA z.org.length oc,.slice uA z.cur.length uc,.slice tA z.touch.length tc,.slice eA z.ends.length ec]:=by rw[hX];exact(Blk.new_at _ _ _ (by simp)).alloc _
 have hbr:Blk X (w.heap.size+1+1) 39 #[.slice none 0 0,.slice none 0 0,.slice none 0 0,.slice none 0 0,.slice none 0 0,.slice none 0 0,.slice none 0 0,.int .i64 0,.int .i64 0,.int .i64 0]:=by rw[hX];exact Blk.new_at _ _ _ (by simp)
 have mor:∀ {B C:Nat} {q:Pg} {a b c:Option Addr},B≤C→PgAt X B q a b c→PgAt X C q a b c:=fun hBC h=>by
  obtain⟨⟨cs,h1,h2⟩,h3,h4⟩:=h;exact⟨⟨cs,h1.more hBC,fun i code hc=>by obtain⟨A,c,x,y⟩:=h2 i code hc;exact⟨A,c,x,y.more hBC⟩⟩,h3.more hBC,h4.more hBC⟩
 have hnew:=Wj X p z hp hz fA mA cA oA tA eA uA fc mc cc oc tc ec uc (mor hXG.size (hpa.keep (W':=X) fun q hq=>hXG.cell hq (fun x=>x))) (by
  have h:=hza.keep (W':=X) fun q hq=>hXG.cell hq (fun x=>x)
  exact⟨h.org.more hXG.size,h.cur.more hXG.size,h.touch.more hXG.size,h.ends.more hXG.size⟩)
 have HNEW:=Aa hnew;have HXG:=Aa hXG;have HBR:=Aa hbr;have HX:=Aa hX;have HN:=Aa hN;have p0:=Ab hbp 0 rfl;have p1:=Ab hbp 1 rfl;have p2:=Ab hbp 2 rfl;have p3:=Ab hbp 3 rfl;have q0:=Ab hbz 0 rfl;have q1:=Ab hbz 1 rfl;have q2:=Ab hbz 2 rfl;have q3:=Ab hbz 3 rfl;clear hX hnew hp hz hpa hza hXG hbp hbz hbr mor;go_enter Tryz.func55,Tryz.ntmps55;go_upto_region 1 with fail
 rw[←HX.out];go_wp2_with fail
 refine HNEW.out.mono ?_;rintro e w1 ⟨mb,O1,L1,rfl,hm1,hO1,hb1⟩;have HR0:Hid (RunI w X mb n.toNat (begin_ p z) (.int .i64 0) w1):=Aa ⟨0,_,Nat.zero_le _,rfl,⟨O1,L1,hm1,hO1,hb1⟩,rfl,Ad,HBR.out.below hb1 (by omega)⟩;clear hm1 hO1 hb1 HNEW p0 p1 p2 p3 q0 q1 q2 q3;generalize begin_ p z=sb at *;go_wp2_with fail
 go_loopw [8] (fun i wr=>RunI w X mb n.toNat sb i wr) (fun i _=>n.toNat-(intOf i).toNat)
 case atStart=>exact HR0.out
 case round =>
  clear HR0;obtain⟨k,t,hk,rfl,⟨O,L,hm,hO,hb⟩,hst,htk,hbr⟩:=hrel;have hn6:=HN.out;by_cases hlt:(k:Int)<n
  ·have HC:=Aa (Zo wr mb O L t hm (by omega));have HM:=Aa hm;have HO:=Aa hO;have HB:=Aa hb;have HST:=Aa hst;have HBR1:=Aa hbr;have hno:¬ O (w.heap.size+1+1):=fun e=>by have:=hO _ e;omega
   have HNO:=Aa hno;clear hm hO hb hst hbr hno;go_wp2_with fail
   refine HC.out.mono ?_;rintro e w2 ⟨rfl,hm2,hf2⟩;have hb2:=hf2.blk HBR1.out HNO.out;have hmn:=MaN.step HO.out HB.out hm2 hf2;have hsb:=Sh (s:=t);rcases hs:Mc.step t with⟨t',b⟩
   rw[hs] at hmn hsb;simp only at hmn hsb;obtain⟨m,hm⟩:∃ m,n.toNat-k=m+1:=⟨n.toNat-k-1,by omega⟩;have hst2:=HST.out;rw[hm] at hst2;clear HC HM HO HB HST HBR1 HNO hm2 hf2;cases b with
   | true =>
    rw[Sc hs] at hst2;have HRE:Hid (RunI w X mb n.toNat sb (.int .i64 ((k:Int)+1)) w2):=Aa ⟨k+1,t',by omega,by simp,hmn,by rw[hst2,show n.toNat-(k+1)=m by omega],by omega,hb2⟩;clear hmn hst2 hb2 hs hm hsb;go_wp2_with fail
    go_roundw
    case rel=>exact HRE.out
    case measure=>simp[intOf];omega
   | false =>
    rw[Op hs] at hst2;have HRUN:=Aa (run_of hst2);obtain⟨O2,L2,hm2,hO2,hbl2⟩:=hmn;have HC:=Aa (Vs w2 mb O2 L2 t' hm2);have HB2:=Aa hb2;have HBL2:=Aa hbl2;clear hm2 hO2 hbl2 hb2 hst2 hs hm hsb;go_wp2_with fail
    refine HC.out.mono ?_;rintro e w3 ⟨og,cu,to,en,cv,st,sk,rfl,hra,hbl3⟩;obtain⟨A1,c1,rfl,_⟩:=Ae hra.og;obtain⟨A2,c2,rfl,_⟩:=Ae hra.cu;obtain⟨A3,c3,rfl,_⟩:=Ae hra.to;obtain⟨A4,c4,rfl,_⟩:=Ae hra.en;obtain⟨A5,c5,rfl,_⟩:=Ae hra.cv;obtain⟨A6,c6,rfl,_⟩:=Ae hra.st;obtain⟨A7,c7,rfl,_⟩:=Ae hra.sk;have hw2:=HBL2.out.size;have HRA:=Aa (hra.mono (show w.heap.size≤w2.heap.size by omega));have HB3:=Aa (HB2.out.below hbl3 HB2.out.lt);have HBL3:=Aa (((Grow.below HXG.out Ad).trans (HBL2.out.mono (by omega))).trans (hbl3.mono (show w.heap.size≤w2.heap.size by omega)));clear hra hbl3 HC HB2 HBL2;have hst:=Eo HB3.out HRA.out (by omega) HBL3.out (.slice A1 t'.org.length c1) (.slice A2 t'.cur.length c2) (.slice A3 t'.touch.length c3) (.slice A4 t'.ends.length c4) (.slice A5 t'.cvt.length c5) (.slice A6 32 c6) (.slice A7 t'.stack.length c7) (.int .i64 t'.steps) (.int .i64 t'.peak) (.int .i64 t'.err);have HST:=Aa hst;have b0:=HB3.out.cell;have b1:=HB3.out.frozen;have b2:=HB3.out.lt;clear hst HB3 HRA HBL3;go_wp2_with fail
    unfold Hi at HST;generalize ((((((((((w3.setCell ⟨w.heap.size+1+1,0,none⟩ (.slice A1 t'.org.length c1)).setCell ⟨w.heap.size+1+1,1,none⟩ (.slice A2 t'.cur.length c2)).setCell ⟨w.heap.size+1+1,2,none⟩ (.slice A3 t'.touch.length c3)).setCell ⟨w.heap.size+1+1,3,none⟩ (.slice A4 t'.ends.length c4)).setCell ⟨w.heap.size+1+1,4,none⟩ (.slice A5 t'.cvt.length c5)).setCell ⟨w.heap.size+1+1,5,none⟩ (.slice A6 32 c6)).setCell ⟨w.heap.size+1+1,6,none⟩ (.slice A7 t'.stack.length c7)).setCell ⟨w.heap.size+1+1,7,none⟩ (.int .i64 t'.steps)).setCell ⟨w.heap.size+1+1,8,none⟩ (.int .i64 t'.peak)).setCell ⟨w.heap.size+1+1,9,none⟩ (.int .i64 t'.err))=W9 at HST ⊢;have e2:=HST.out.2.2.lt;have e1:=HST.out.2.2.cell;simp only[List.setIfInBounds_toArray,List.set_cons_zero,List.set_cons_succ] at e1;have y0:=e1 0;simp only[List.getElem?_toArray,List.getElem?_cons_zero] at y0;have y1:=e1 1;simp only[List.getElem?_toArray,List.getElem?_cons_zero,List.getElem?_cons_succ] at y1;have y2:=e1 2;simp only[List.getElem?_toArray,List.getElem?_cons_zero,List.getElem?_cons_succ] at y2;have y3:=e1 3;simp only[List.getElem?_toArray,List.getElem?_cons_zero,List.getElem?_cons_succ] at y3;have y4:=e1 4;simp only[List.getElem?_toArray,List.getElem?_cons_zero,List.getElem?_cons_succ] at y4;have y5:=e1 5;simp only[List.getElem?_toArray,List.getElem?_cons_zero,List.getElem?_cons_succ] at y5;have y6:=e1 6;simp only[List.getElem?_toArray,List.getElem?_cons_zero,List.getElem?_cons_succ] at y6;have y7:=e1 7
    simp only[List.getElem?_toArray,List.getElem?_cons_zero,List.getElem?_cons_succ] at y7;have y8:=e1 8;simp only[List.getElem?_toArray,List.getElem?_cons_zero,List.getElem?_cons_succ] at y8;have y9:=e1 9;simp only[List.getElem?_toArray,List.getElem?_cons_zero,List.getElem?_cons_succ] at y9;clear e1;refine bodyPost_ret (v:=.agg #[.slice A1 t'.org.length c1,.slice A2 t'.cur.length c2,.slice A3 t'.touch.length c3,.slice A4 t'.ends.length c4,.slice A5 t'.cvt.length c5,.slice A6 32 c6,.slice A7 t'.stack.length c7,.int .i64 t'.steps,.int .i64 t'.peak,.int .i64 t'.err]) (by simp[results,Tryz.results55,go_sem,y0,y1,y2,y3,y4,y5,y6,y7,y8,y9]) rfl ?_;rw[HRUN.out];exact⟨_,_,_,_,_,_,_,rfl,HST.out.1,HST.out.2.1⟩
  ·have hkn:n.toNat-k=0:=by omega
   rw[hkn] at hst;have hst0:Mc.steps n.toNat sb=(t,true):=hst;have HC:=Aa (Rd wr mb O L t hm);have HO:=Aa hO;have HB:=Aa hb;have HST0:=Aa hst0;have HBR1:=Aa hbr;have hno:¬ O (w.heap.size+1+1):=fun e=>by have:=hO _ e;omega
   have HNO:=Aa hno;clear hm hO hb hst hbr hno hst0 hkn;go_wp2_with fail
   refine HC.out.mono ?_;rintro e w2 ⟨⟨x,y,rfl,hxy⟩,hm2,hf2⟩;have hb2:=hf2.blk HBR1.out HNO.out;have hmn:=MaN.same HO.out HB.out hm2 hf2;rcases hnx:next t with⟨u,o⟩
   rw[hnx] at hmn;simp only at hmn ⊢;obtain⟨O2,L2,hmu,hO2,hblu⟩:=hmn;have HC2:=Aa (Vs (w2.alloc (.cells #[.int .i64 x,.int .i64 y] 96)) mb O2 L2 u (hmu.alloc _));have HBA:=Aa (hb2.alloc (.cells #[.int .i64 x,.int .i64 y] 96));have HBLA:=Aa (hblu.alloc (by have:=hblu.size;omega) (.cells #[.int .i64 x,.int .i64 y] 96));clear hmu hO2 hblu hb2 hm2 hf2 hxy HC HO HB HBR1 HNO;cases o with
   | none =>
    have HRUN:=Aa (Zac HST0.out hnx);clear hnx HST0;simp only[Option.isSome_none];go_wp2_with fail
    refine HC2.out.mono ?_;rintro e w3 ⟨og,cu,to,en,cv,st,sk,rfl,hra,hbl3⟩;obtain⟨A1,c1,rfl,_⟩:=Ae hra.og;obtain⟨A2,c2,rfl,_⟩:=Ae hra.cu;obtain⟨A3,c3,rfl,_⟩:=Ae hra.to;obtain⟨A4,c4,rfl,_⟩:=Ae hra.en;obtain⟨A5,c5,rfl,_⟩:=Ae hra.cv;obtain⟨A6,c6,rfl,_⟩:=Ae hra.st;obtain⟨A7,c7,rfl,_⟩:=Ae hra.sk;go_upto_region 11 with fail
    have hw2:=HBLA.out.size;have hw3:=hbl3.size;have HRA:=Aa ((hra.mono (show w.heap.size≤(w2.alloc (.cells #[.int .i64 x,.int .i64 y] 96)).heap.size by omega)).grow ((Fr.refl _ w3).alloc (.cells #[.slice A1 u.org.length c1,.slice A2 u.cur.length c2,.slice A3 u.touch.length c3,.slice A4 u.ends.length c4,.slice A5 u.cvt.length c5,.slice A6 32 c6,.slice A7 u.stack.length c7,.int .i64 u.steps,.int .i64 u.peak,.int .i64 u.err] 39)));have HB3:=Aa ((HBA.out.below hbl3 HBA.out.lt).alloc (.cells #[.slice A1 u.org.length c1,.slice A2 u.cur.length c2,.slice A3 u.touch.length c3,.slice A4 u.ends.length c4,.slice A5 u.cvt.length c5,.slice A6 32 c6,.slice A7 u.stack.length c7,.int .i64 u.steps,.int .i64 u.peak,.int .i64 u.err] 39));have HBL3:=Aa ((((Grow.below HXG.out Ad).trans (HBLA.out.mono (by omega))).trans (hbl3.mono (show w.heap.size≤(w2.alloc (.cells #[.int .i64 x,.int .i64 y] 96)).heap.size by omega))).alloc (show w.heap.size≤w3.heap.size by omega) (.cells #[.slice A1 u.org.length c1,.slice A2 u.cur.length c2,.slice A3 u.touch.length c3,.slice A4 u.ends.length c4,.slice A5 u.cvt.length c5,.slice A6 32 c6,.slice A7 u.stack.length c7,.int .i64 u.steps,.int .i64 u.peak,.int .i64 u.err] 39));have HR4:=Aa (Blk.new w3 39 #[.slice A1 u.org.length c1,.slice A2 u.cur.length c2,.slice A3 u.touch.length c3,.slice A4 u.ends.length c4,.slice A5 u.cvt.length c5,.slice A6 32 c6,.slice A7 u.stack.length c7,.int .i64 u.steps,.int .i64 u.peak,.int .i64 u.err])
    have hrb:w3.heap.size≠w.heap.size+1+1:=by have:=(HBA.out.below hbl3 HBA.out.lt).lt;omega
    clear hra hbl3 HC2 HBA HBLA;generalize w3.alloc (.cells #[.slice A1 u.org.length c1,.slice A2 u.cur.length c2,.slice A3 u.touch.length c3,.slice A4 u.ends.length c4,.slice A5 u.cvt.length c5,.slice A6 32 c6,.slice A7 u.stack.length c7,.int .i64 u.steps,.int .i64 u.peak,.int .i64 u.err] 39)=W4 at *;generalize w3.heap.size=rb at *;have g0:=Ab HR4.out 0 rfl;have g1:=Ab HR4.out 1 rfl;have g2:=Ab HR4.out 2 rfl;have g3:=Ab HR4.out 3 rfl;have g4:=Ab HR4.out 4 rfl;have g5:=Ab HR4.out 5 rfl;have g6:=Ab HR4.out 6 rfl;have g7:=Ab HR4.out 7 rfl;have g8:=Ab HR4.out 8 rfl;have g9:=Ab HR4.out 9 rfl;have hst:=Eo HB3.out HRA.out (by omega) HBL3.out (.slice A1 u.org.length c1) (.slice A2 u.cur.length c2) (.slice A3 u.touch.length c3) (.slice A4 u.ends.length c4) (.slice A5 u.cvt.length c5) (.slice A6 32 c6) (.slice A7 u.stack.length c7) (.int .i64 u.steps) (.int .i64 u.peak) (.int .i64 u.err);have HST:=Aa hst;have b0:=HB3.out.cell;have b1:=HB3.out.frozen;have b2:=HB3.out.lt;clear hst HB3 HRA HBL3;go_wp2_with fail
    unfold Hi at HST;generalize ((((((((((W4.setCell ⟨w.heap.size+1+1,0,none⟩ (.slice A1 u.org.length c1)).setCell ⟨w.heap.size+1+1,1,none⟩ (.slice A2 u.cur.length c2)).setCell ⟨w.heap.size+1+1,2,none⟩ (.slice A3 u.touch.length c3)).setCell ⟨w.heap.size+1+1,3,none⟩ (.slice A4 u.ends.length c4)).setCell ⟨w.heap.size+1+1,4,none⟩ (.slice A5 u.cvt.length c5)).setCell ⟨w.heap.size+1+1,5,none⟩ (.slice A6 32 c6)).setCell ⟨w.heap.size+1+1,6,none⟩ (.slice A7 u.stack.length c7)).setCell ⟨w.heap.size+1+1,7,none⟩ (.int .i64 u.steps)).setCell ⟨w.heap.size+1+1,8,none⟩ (.int .i64 u.peak)).setCell ⟨w.heap.size+1+1,9,none⟩ (.int .i64 u.err))=W9 at HST ⊢;have e2:=HST.out.2.2.lt;have e1:=HST.out.2.2.cell;simp only[List.setIfInBounds_toArray,List.set_cons_zero,List.set_cons_succ] at e1;have y0:=e1 0;simp only[List.getElem?_toArray,List.getElem?_cons_zero] at y0;have y1:=e1 1;simp only[List.getElem?_toArray,List.getElem?_cons_zero,List.getElem?_cons_succ] at y1;have y2:=e1 2;simp only[List.getElem?_toArray,List.getElem?_cons_zero,List.getElem?_cons_succ] at y2;have y3:=e1 3;simp only[List.getElem?_toArray,List.getElem?_cons_zero,List.getElem?_cons_succ] at y3;have y4:=e1 4;simp only[List.getElem?_toArray,List.getElem?_cons_zero,List.getElem?_cons_succ] at y4;have y5:=e1 5;simp only[List.getElem?_toArray,List.getElem?_cons_zero,List.getElem?_cons_succ] at y5;have y6:=e1 6;simp only[List.getElem?_toArray,List.getElem?_cons_zero,List.getElem?_cons_succ] at y6;have y7:=e1 7
    simp only[List.getElem?_toArray,List.getElem?_cons_zero,List.getElem?_cons_succ] at y7;have y8:=e1 8;simp only[List.getElem?_toArray,List.getElem?_cons_zero,List.getElem?_cons_succ] at y8;have y9:=e1 9;simp only[List.getElem?_toArray,List.getElem?_cons_zero,List.getElem?_cons_succ] at y9;clear e1;refine bodyPost_ret (v:=.agg #[.slice A1 u.org.length c1,.slice A2 u.cur.length c2,.slice A3 u.touch.length c3,.slice A4 u.ends.length c4,.slice A5 u.cvt.length c5,.slice A6 32 c6,.slice A7 u.stack.length c7,.int .i64 u.steps,.int .i64 u.peak,.int .i64 u.err]) (by simp[results,Tryz.results55,go_sem,y0,y1,y2,y3,y4,y5,y6,y7,y8,y9]) rfl ?_;rw[HRUN.out];exact⟨_,_,_,_,_,_,_,rfl,HST.out.1,HST.out.2.1⟩
   | some ins =>
    have HRUN:=Aa (Zaa HST0.out hnx);clear hnx HST0;simp only[Option.isSome_some];go_wp2_with fail
    refine HC2.out.mono ?_;rintro e w3 ⟨og,cu,to,en,cv,st,sk,rfl,hra,hbl3⟩;obtain⟨A1,c1,rfl,_⟩:=Ae hra.og;obtain⟨A2,c2,rfl,_⟩:=Ae hra.cu;obtain⟨A3,c3,rfl,_⟩:=Ae hra.to;obtain⟨A4,c4,rfl,_⟩:=Ae hra.en;obtain⟨A5,c5,rfl,_⟩:=Ae hra.cv;obtain⟨A6,c6,rfl,_⟩:=Ae hra.st;obtain⟨A7,c7,rfl,_⟩:=Ae hra.sk;go_upto_region 11 with fail
    have hw2:=HBLA.out.size;have hw3:=hbl3.size;have HRA:=Aa ((hra.mono (show w.heap.size≤(w2.alloc (.cells #[.int .i64 x,.int .i64 y] 96)).heap.size by omega)).grow ((Fr.refl _ w3).alloc (.cells #[.slice A1 u.org.length c1,.slice A2 u.cur.length c2,.slice A3 u.touch.length c3,.slice A4 u.ends.length c4,.slice A5 u.cvt.length c5,.slice A6 32 c6,.slice A7 u.stack.length c7,.int .i64 u.steps,.int .i64 u.peak,.int .i64 53] 39)));have HB3:=Aa ((HBA.out.below hbl3 HBA.out.lt).alloc (.cells #[.slice A1 u.org.length c1,.slice A2 u.cur.length c2,.slice A3 u.touch.length c3,.slice A4 u.ends.length c4,.slice A5 u.cvt.length c5,.slice A6 32 c6,.slice A7 u.stack.length c7,.int .i64 u.steps,.int .i64 u.peak,.int .i64 53] 39));have HBL3:=Aa ((((Grow.below HXG.out Ad).trans (HBLA.out.mono (by omega))).trans (hbl3.mono (show w.heap.size≤(w2.alloc (.cells #[.int .i64 x,.int .i64 y] 96)).heap.size by omega))).alloc (show w.heap.size≤w3.heap.size by omega) (.cells #[.slice A1 u.org.length c1,.slice A2 u.cur.length c2,.slice A3 u.touch.length c3,.slice A4 u.ends.length c4,.slice A5 u.cvt.length c5,.slice A6 32 c6,.slice A7 u.stack.length c7,.int .i64 u.steps,.int .i64 u.peak,.int .i64 53] 39));have HR4:=Aa (Blk.new w3 39 #[.slice A1 u.org.length c1,.slice A2 u.cur.length c2,.slice A3 u.touch.length c3,.slice A4 u.ends.length c4,.slice A5 u.cvt.length c5,.slice A6 32 c6,.slice A7 u.stack.length c7,.int .i64 u.steps,.int .i64 u.peak,.int .i64 53])
    have hrb:w3.heap.size≠w.heap.size+1+1:=by have:=(HBA.out.below hbl3 HBA.out.lt).lt;omega
    clear hra hbl3 HC2 HBA HBLA;generalize w3.alloc (.cells #[.slice A1 u.org.length c1,.slice A2 u.cur.length c2,.slice A3 u.touch.length c3,.slice A4 u.ends.length c4,.slice A5 u.cvt.length c5,.slice A6 32 c6,.slice A7 u.stack.length c7,.int .i64 u.steps,.int .i64 u.peak,.int .i64 53] 39)=W4 at *;generalize w3.heap.size=rb at *;have g0:=Ab HR4.out 0 rfl;have g1:=Ab HR4.out 1 rfl;have g2:=Ab HR4.out 2 rfl;have g3:=Ab HR4.out 3 rfl;have g4:=Ab HR4.out 4 rfl;have g5:=Ab HR4.out 5 rfl;have g6:=Ab HR4.out 6 rfl;have g7:=Ab HR4.out 7 rfl;have g8:=Ab HR4.out 8 rfl;have g9:=Ab HR4.out 9 rfl;have hst:=Eo HB3.out HRA.out (by omega) HBL3.out (.slice A1 u.org.length c1) (.slice A2 u.cur.length c2) (.slice A3 u.touch.length c3) (.slice A4 u.ends.length c4) (.slice A5 u.cvt.length c5) (.slice A6 32 c6) (.slice A7 u.stack.length c7) (.int .i64 u.steps) (.int .i64 u.peak) (.int .i64 53);have HST:=Aa hst;have b0:=HB3.out.cell;have b1:=HB3.out.frozen;have b2:=HB3.out.lt;clear hst HB3 HRA HBL3;go_wp2_with fail
    unfold Hi at HST;generalize ((((((((((W4.setCell ⟨w.heap.size+1+1,0,none⟩ (.slice A1 u.org.length c1)).setCell ⟨w.heap.size+1+1,1,none⟩ (.slice A2 u.cur.length c2)).setCell ⟨w.heap.size+1+1,2,none⟩ (.slice A3 u.touch.length c3)).setCell ⟨w.heap.size+1+1,3,none⟩ (.slice A4 u.ends.length c4)).setCell ⟨w.heap.size+1+1,4,none⟩ (.slice A5 u.cvt.length c5)).setCell ⟨w.heap.size+1+1,5,none⟩ (.slice A6 32 c6)).setCell ⟨w.heap.size+1+1,6,none⟩ (.slice A7 u.stack.length c7)).setCell ⟨w.heap.size+1+1,7,none⟩ (.int .i64 u.steps)).setCell ⟨w.heap.size+1+1,8,none⟩ (.int .i64 u.peak)).setCell ⟨w.heap.size+1+1,9,none⟩ (.int .i64 53))=W9 at HST ⊢;have e2:=HST.out.2.2.lt;have e1:=HST.out.2.2.cell;simp only[List.setIfInBounds_toArray,List.set_cons_zero,List.set_cons_succ] at e1;have y0:=e1 0;simp only[List.getElem?_toArray,List.getElem?_cons_zero] at y0;have y1:=e1 1;simp only[List.getElem?_toArray,List.getElem?_cons_zero,List.getElem?_cons_succ] at y1;have y2:=e1 2;simp only[List.getElem?_toArray,List.getElem?_cons_zero,List.getElem?_cons_succ] at y2;have y3:=e1 3;simp only[List.getElem?_toArray,List.getElem?_cons_zero,List.getElem?_cons_succ] at y3;have y4:=e1 4;simp only[List.getElem?_toArray,List.getElem?_cons_zero,List.getElem?_cons_succ] at y4;have y5:=e1 5;simp only[List.getElem?_toArray,List.getElem?_cons_zero,List.getElem?_cons_succ] at y5;have y6:=e1 6;simp only[List.getElem?_toArray,List.getElem?_cons_zero,List.getElem?_cons_succ] at y6;have y7:=e1 7
    simp only[List.getElem?_toArray,List.getElem?_cons_zero,List.getElem?_cons_succ] at y7;have y8:=e1 8;simp only[List.getElem?_toArray,List.getElem?_cons_zero,List.getElem?_cons_succ] at y8;have y9:=e1 9;simp only[List.getElem?_toArray,List.getElem?_cons_zero,List.getElem?_cons_succ] at y9;clear e1;refine bodyPost_ret (v:=.agg #[.slice A1 u.org.length c1,.slice A2 u.cur.length c2,.slice A3 u.touch.length c3,.slice A4 u.ends.length c4,.slice A5 u.cvt.length c5,.slice A6 32 c6,.slice A7 u.stack.length c7,.int .i64 u.steps,.int .i64 u.peak,.int .i64 53]) (by simp[results,Tryz.results55,go_sem,y0,y1,y2,y3,y4,y5,y6,y7,y8,y9]) rfl ?_;rw[HRUN.out];exact⟨_,_,_,_,_,_,_,rfl,⟨HST.out.1.og,HST.out.1.cu,HST.out.1.to,HST.out.1.en,HST.out.1.cv,HST.out.1.st,HST.out.1.sk⟩,HST.out.2.1⟩
end Go.Proofs.YtnhebmgibiomnaaGreat

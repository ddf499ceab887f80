/- Parts of the proof, joined: BdA. -/
import Derived.BigQuiet
import Derived.BigRegion
import Derived.Deep.Light
import Derived.Deep.QuietTactic
import Derived.Deep.RegionHeld3
import Derived.Deep.RegionWith
import Derived.Laws.EntriesVeiled
import Derived.LoopIn
import Derived.LoopNIn
import Derived.OwnWalkIn
import Derived.Shelf.Abstract
import Derived.Shelf.RegionOpen
import Derived.StillTailTactics
import Derived.TacticsInMore
import Derived.Test.YtnhebmgibiomnaaGreatRows
import Derived.Test.YtnhebmgibiomnaaGreatPb0
import Derived.Test.YtnhebmgibiomnaaGreatPb22
set_option linter.unusedVariables false
set_option linter.unusedSimpArgs false
set_option maxRecDepth 100000
set_option maxHeartbeats 8000000
namespace Go.Proofs.YtnhebmgibiomnaaGreat
open Go.RowKit
theorem Zeo {k k':IntKind} {a b a' b':Int} (h:a=b) (h':a'=b'):Ending.returned (.tuple #[.int k a,.int k' a'])=.returned (.tuple #[.int k b,.int k' b']):=by rw[h,h']
theorem Ko (op:Int) (w:World) :
  Calls Tryz.prog 243 #[.int .i64 op] w fun e w'=>e=.returned (.tuple #[.int .i64 (Bd.takes op),.int .i64 (Bd.leaves op)])∧w=w':=by
 go_enter Tryz.func243,Tryz.ntmps243;go_wp2
 all_goals (go_ret2;go_light;refine⟨Zeo ?_ ?_,rfl⟩ <;> simp_all [Bd.takes,Bd.leaves])
theorem Fp (op a:Int) (w:World) :
  Calls Tryz.prog 240 #[.agg #[.int .i64 op,.int .i64 a]] w fun e w'=>e=.returned (.bool (Bd.jumps op))∧w.alloc (.cells #[.int .i64 op,.int .i64 a] 96)=w':=by
 by_cases h:op=35
 ·subst h;go_enter Tryz.func240,Tryz.ntmps240;go_wp2;go_ret;exact⟨rfl,rfl⟩
 ·have hb:(op==35)=false:=by simpa using h
  have e:Bd.jumps op=(op==36):=by unfold Bd.jumps;rw[hb];rfl
  rw[e];go_enter Tryz.func240,Tryz.ntmps240;go_wp2;go_ret;exact⟨rfl,rfl⟩
theorem Fu (op a:Int) (w:World) :
  Calls Tryz.prog 242 #[.agg #[.int .i64 op,.int .i64 a]] w fun e w'=>e=.returned (.bool (Bd.calls op))∧w.alloc (.cells #[.int .i64 op,.int .i64 a] 96)=w':=by
 by_cases h:op=37
 ·subst h;go_enter Tryz.func242,Tryz.ntmps242;go_wp2;go_ret;exact⟨rfl,rfl⟩
 ·have hb:(op==37)=false:=by simpa using h
  have e:Bd.calls op=(op==38):=by unfold Bd.calls;rw[hb];rfl
  rw[e];go_enter Tryz.func242,Tryz.ntmps242;go_wp2;go_ret;exact⟨rfl,rfl⟩
theorem Wp (c:Bd.Cost) (w:World) :
  Calls Tryz.prog 86 #[.agg #[.int .i64 c.need,.int .i64 c.delta,.int .i64 c.peak,.int .i64 c.steps]] w fun e w'=>e=.returned (.bool (Bd.mayBe c))∧Below w.heap.size w w':=by
 obtain⟨n,d,p,s⟩:=c;simp only;go_enter Tryz.func86,Tryz.ntmps86;go_wp2
 all_goals (go_ret;go_light;refine⟨Bm ?_,?_⟩;(simp_all [Bd.mayBe] <;> omega);exact aliasBr.alloc Ad _)
end Go.Proofs.YtnhebmgibiomnaaGreat
namespace Go.Proofs.YtnhebmgibiomnaaGreat
open Go.RowKit
def Bk:List Bd.Cost→List Value
 | []=>[]
 | c::r=>.int .i64 c.need::.int .i64 c.delta::.int .i64 c.peak::.int .i64 c.steps::Bk r
def Bv:List Bd.Place→List Value
 | []=>[]
 | p::r=>.bool p.known::.int .i64 p.high::.int .i64 p.steps::Bv r
theorem Eh (l:List Bd.Cost):∀ (i:Nat) (c:Bd.Cost),l[i]?=some c→(Bk l)[i*4]?=some (.int .i64 c.need)∧(Bk l)[i*4+1]?=some (.int .i64 c.delta)∧(Bk l)[i*4+2]?=some (.int .i64 c.peak)∧(Bk l)[i*4+3]?=some (.int .i64 c.steps):=by
 induction l with
 | nil=>intro i c h;simp at h
 | cons d r ih =>
  intro i c h;cases i with
  | zero=>simp at h;subst h;simp[Bk]
  | succ i =>
   have:=ih i c (by simpa using h);rw[show (i+1)*4=i*4+4 by omega]
   simpa [Bk] using this
theorem Pq (l:List (Int×Int)):∀ (i:Nat) (c:Int×Int),l[i]?=some c→(Bg l)[i*2]?=some (.int .i64 c.1)∧(Bg l)[i*2+1]?=some (.int .i64 c.2):=by
 induction l with
 | nil=>intro i c h;simp at h
 | cons d r ih =>
  intro i c h;cases i with
  | zero=>simp at h;subst h;simp[Bg]
  | succ i =>
   have:=ih i c (by simpa using h);rw[show (i+1)*2=i*2+2 by omega]
   simpa [Bg] using this
theorem Es (l:List Bd.Place):∀ (i:Nat) (c:Bd.Place),l[i]?=some c→(Bv l)[i*3]?=some (.bool c.known)∧(Bv l)[i*3+1]?=some (.int .i64 c.high)∧(Bv l)[i*3+2]?=some (.int .i64 c.steps):=by
 induction l with
 | nil=>intro i c h;simp at h
 | cons d r ih =>
  intro i c h;cases i with
  | zero=>simp at h;subst h;simp[Bv]
  | succ i =>
   have:=ih i c (by simpa using h);rw[show (i+1)*3=i*3+3 by omega]
   simpa [Bv] using this
theorem effect_plain (p:Value) (k:Bool) (h s op a:Int) (w:World) (hh0 : -64≤h) (hh1:h≤32) (hs0:0≤s) (hs1:s≤4096) (hc:Bd.calls op=false) :
  Calls Tryz.prog 163 #[p,.agg #[.bool k,.int .i64 h,.int .i64 s],.agg #[.int .i64 op,.int .i64 a]] w fun e w'=>e=.returned (.agg #[.int .i64 (Bd.takes op-h),.int .i64 (h-Bd.takes op+Bd.leaves op),.int .i64 (h-Bd.takes op+Bd.leaves op),.int .i64 (s+1)])∧Below w.heap.size w w':=by
 have tb:=Bd.takes_bd op;have lb:=Bd.leaves_bd op;have HC:=Aa hc;clear hc;go_enter Tryz.func163,Tryz.ntmps163;go_wp2_with fail
 refine(Ko op _).mono ?_;rintro e w' ⟨rfl,rfl⟩;generalize ht:Bd.takes op=t at *;generalize hl:Bd.leaves op=l at *;have HT:=Aa ht;have HL:=Aa hl;clear ht hl;go_wp2_with fail
 refine(Fu op a _).mono ?_;rintro e w' ⟨rfl,rfl⟩;rw[HC.out];go_wp2_with fail
 refine bodyPost_ret (v:=.agg #[.int .i64 (t-h),.int .i64 (h-t+l),.int .i64 (h-t+l),.int .i64 (s+1)]) (by simp[results,Tryz.results163,go_sem]) rfl ⟨by rw[HT.out,HL.out],?_⟩;exact(by repeat (first|exact aliasBr|assumption|(refine Below.setCell ?_ (by first|omega|(simp;done)|(simp;omega)) _)|(refine Below.drew ?_)|(refine below_drewN ?_ _)|(refine Below.alloc ?_ (by first|omega|(simp;done)|(simp;omega)) _)))
theorem effect_call (P B A0:Nat) (c0 c2 c3 c4:Value) (Af:Option Addr) (m cf:Nat) (fs:List Bd.Cost) (k:Bool) (hi s op a:Int) (w:World) (hh0 : -64≤hi) (hh1:hi≤32) (hs0:0≤s) (hs1:s≤4096) (hc:Bd.calls op=true)
  (hP:Blk w P 200 #[c0,.slice Af m cf,c2,c3,c4]) (hF:Reads w B 4 Af m (Bk fs)) (hB:B≤w.heap.size) (hm:m=fs.length) (ha0:0≤a) (ha1:a<m) (hfs:fs.all Bd.mayBe=true) (hA0:A0=0) :
  Calls Tryz.prog 163 #[.pointer (some ⟨P,A0,none⟩),.agg #[.bool k,.int .i64 hi,.int .i64 s],.agg #[.int .i64 op,.int .i64 a]] w fun e w'=>e=.returned (.agg #[.int .i64 (Bd.effect fs ⟨k,hi,s⟩ (op,a)).need,.int .i64 (Bd.effect fs ⟨k,hi,s⟩ (op,a)).peak,.int .i64 (Bd.effect fs ⟨k,hi,s⟩ (op,a)).high,.int .i64 (Bd.effect fs ⟨k,hi,s⟩ (op,a)).steps])∧Below w.heap.size w w':=by
 subst hA0;have tb:=Bd.takes_bd op;have lb:=Bd.leaves_bd op;obtain⟨an,rfl⟩:=Int.eq_ofNat_of_zero_le ha0;obtain⟨cc,hcc⟩:∃ cc,fs[an]?=some cc:=⟨_,List.getElem?_eq_getElem (by omega)⟩;have hcb:=Bd.mayBe_bd (List.all_eq_true.1 hfs cc (List.mem_of_getElem? hcc));have hfn:Bd.fn fs (an:Int)=cc:=by unfold Bd.fn;rw[List.getD_eq_getElem?_getD];simp[hcc]
 have HE:=Aa (show Bd.effect fs ⟨k,hi,s⟩ (op,(an:Int))=⟨max (Bd.takes op-hi) (cc.need-(hi-Bd.takes op+Bd.leaves op)),max (max (hi-Bd.takes op+Bd.leaves op) ((hi-Bd.takes op+Bd.leaves op)+cc.peak)) ((hi-Bd.takes op+Bd.leaves op)+cc.delta),(hi-Bd.takes op+Bd.leaves op)+cc.delta,s+1+(if op=38 then 16 else 1)*cc.steps⟩ by
  unfold Bd.effect;simp only;rw[if_pos hc,hfn])
 obtain⟨b,off,rfl,hbB,hcells⟩:=hF.2 (by omega);obtain⟨g0,g1,g2,g3⟩:=Eh fs an cc hcc;have d0:=hcells _ _ g0;have d1:=hcells _ _ g1;have d2:=hcells _ _ g2;have d3:=hcells _ _ g3;rw[←Nat.add_assoc] at d1 d2 d3;clear hcells g0 g1 g2 g3 hcc hfn hF hfs;obtain⟨cn,cd,cp,cs⟩:=cc;simp only at hcb d0 d1 d2 d3 HE;have HC:=Aa hc;clear hc;have p1:w.cell? ⟨P,1,none⟩=some (.slice (some ⟨b,off,none⟩) m cf):=by rw[hP.cell];rfl
 have hPl:=hP.lt;have ham:an<m:=by omega
 go_enter Tryz.func163,Tryz.ntmps163;go_wp2_with fail
 refine(Ko op _).mono ?_;rintro e w' ⟨rfl,rfl⟩;generalize Bd.takes op=t at *;generalize Bd.leaves op=l at *;go_wp2_with fail
 refine(Fu op an _).mono ?_;rintro e w' ⟨rfl,rfl⟩;rw[HC.out];have hz4:b<w.heap.size:=by omega
 obtain⟨u1,u2,u3,u4,u5,u6,u7,u8,u9,u10⟩:=lts hPl;obtain⟨v1,v2,v3,v4,v5,v6,v7,v8,v9,v10⟩:=lts hz4;clear hm hP;go_wp2_with fail
 go_region;by_cases h38:op=38
 ·subst h38;go_wp2_with fail
  all_goals (refine bodyPost_ret (v:=.agg #[.int .i64 (max (t-hi) (cn-(hi-t+l))),.int .i64 (max (max (hi-t+l) (hi-t+l+cp)) (hi-t+l+cd)),.int .i64 (hi-t+l+cd),.int .i64 (s+1+16*cs)]) (by simp[results,Tryz.results163,go_sem] <;> omega) rfl ⟨by rw[HE.out];simp,(by repeat (first|exact aliasBr|assumption|(refine Below.setCell ?_ (by first|omega|(simp;done)|(simp;omega)) _)|(refine Below.drew ?_)|(refine below_drewN ?_ _)|(refine Below.alloc ?_ (by first|omega|(simp;done)|(simp;omega)) _)))⟩)
 ·have hb38:(op==38)=false:=by simpa using h38
  go_wp2_with fail
  all_goals (refine bodyPost_ret (v:=.agg #[.int .i64 (max (t-hi) (cn-(hi-t+l))),.int .i64 (max (max (hi-t+l) (hi-t+l+cp)) (hi-t+l+cd)),.int .i64 (hi-t+l+cd),.int .i64 (s+1+cs)]) (by simp[results,Tryz.results163,go_sem] <;> omega) rfl ⟨by rw[HE.out];simp[h38],(by repeat (first|exact aliasBr|assumption|(refine Below.setCell ?_ (by first|omega|(simp;done)|(simp;omega)) _)|(refine Below.drew ?_)|(refine below_drewN ?_ _)|(refine Below.alloc ?_ (by first|omega|(simp;done)|(simp;omega)) _)))⟩)
end Go.Proofs.YtnhebmgibiomnaaGreat
namespace Go.Proofs.YtnhebmgibiomnaaGreat
open Go.RowKit
theorem al1 (X:Nat) (op a:Int) (w:World) (hX:Blk w X 96 #[.int .i64 op,.int .i64 a]) :
  Calls Tryz.prog 238 #[.pointer (some ⟨X,0,none⟩)] w fun e w'=>e=.returned (.bool (decide (1≤op∧op≤39)))∧Below w.heap.size w w':=by
 have x0:w.cell? ⟨X,0,none⟩=some (.int .i64 op):=by rw[hX.cell];rfl
 clear hX;go_enter Tryz.func238,Tryz.ntmps238;go_wp2
 all_goals (go_ret;go_light;exact⟨Bm (by simp <;> omega),aliasBr⟩)
theorem al2 (X PB AT P:Nat) (op a at_:Int) (A:Option Addr) (n c:Nat) (c1 c2 c3 c4:Value) (w:World) (hX:Blk w X 96 #[.int .i64 op,.int .i64 a]) (hPB:Blk w PB 193 #[.pointer (some ⟨P,0,none⟩)]) (hAT:Blk w AT 3 #[.int .i64 at_])
  (hP:Blk w P 200 #[.slice A n c,c1,c2,c3,c4]) (ha0:0≤at_) (ha1:at_≤n) (hn:n≤1000000000000000) :
  Calls Tryz.prog 239 #[.pointer (some ⟨X,0,none⟩),.pointer (some ⟨PB,0,none⟩),.pointer (some ⟨AT,0,none⟩)] w fun e w'=>e=.returned (.bool (!(Bd.jumps op && !(decide (0≤a) && decide (a≤n-1-at_)))))∧Below w.heap.size w w':=by
 have x0:w.cell? ⟨X,0,none⟩=some (.int .i64 op):=by rw[hX.cell];rfl
 have x1:w.cell? ⟨X,1,none⟩=some (.int .i64 a):=by rw[hX.cell];rfl
 have q0:w.cell? ⟨PB,0,none⟩=some (.pointer (some ⟨P,0,none⟩)):=by rw[hPB.cell];rfl
 have t0:w.cell? ⟨AT,0,none⟩=some (.int .i64 at_):=by rw[hAT.cell];rfl
 have p0:w.cell? ⟨P,0,none⟩=some (.slice A n c):=by rw[hP.cell];rfl
 have l1:=hX.lt;have l2:=hPB.lt;have l3:=hAT.lt;have l4:=hP.lt;clear hX hPB hAT hP;cases hj:Bd.jumps op with
 | false =>
  have HJ:=Aa hj;clear hj;go_enter Tryz.func239,Tryz.ntmps239;go_wp2_with fail
  refine wp_region_any (by kernel_rfl) ?_;change wpAny _ _ _ _ _ _ _ (World.drew _);refine wpAny_ready (rs:=[0]) (by kernel_rfl) (by simp) ?_;refine AllReady.cons rfl (fun K hK=>?_) AllReady.nil;go_simp;refine hK _ _ ?_;clear hK K;refine wpAny_ready (rs:=[1]) (by kernel_rfl) (by simp) ?_;refine AllReady.cons rfl (fun K hK=>?_) AllReady.nil;go_simp;refine(Fp op a _).mono ?_;rintro e w' ⟨rfl,rfl⟩;rw[HJ.out];dsimp only;refine hK _ _ ?_;clear hK K;refine wpAny_take (i:=2) (v:=.bool true) rfl (by kernel_rfl) (by kernel_rfl) (by kernel_rfl) (fun _ _ _ h=>h) (Or.inl ⟨by kernel_rfl,fun w=>by first|(go_simp;done)|rfl⟩) ?_;refine wpAny_take (i:=3) (v:=.bool true) rfl (by kernel_rfl) (by kernel_rfl) (by kernel_rfl) (fun _ _ _ h=>h) (Or.inl ⟨by kernel_rfl,fun w=>by first|(go_simp;done)|rfl⟩) ?_;refine wpAny_take (i:=4) (v:=undef) rfl (by kernel_rfl) (by kernel_rfl) (by kernel_rfl) (fun _ _ _ h=>h) (Or.inr ⟨by kernel_rfl,rfl⟩) ?_;refine wpAny_take (i:=5) (v:=undef) rfl (by kernel_rfl) (by kernel_rfl) (by kernel_rfl) (fun _ _ _ h=>h) (Or.inr ⟨by kernel_rfl,rfl⟩) ?_;refine wpAny_take (i:=6) (v:=undef) rfl (by kernel_rfl) (by kernel_rfl) (by kernel_rfl) (fun _ _ _ h=>h) (Or.inr ⟨by kernel_rfl,rfl⟩) ?_;refine wpAny_take (i:=7) (v:=undef) rfl (by kernel_rfl) (by kernel_rfl) (by kernel_rfl) (fun _ _ _ h=>h) (Or.inr ⟨by kernel_rfl,rfl⟩) ?_;refine wpAny_take (i:=8) (v:=undef) rfl (by kernel_rfl) (by kernel_rfl) (by kernel_rfl) (fun _ _ _ h=>h) (Or.inr ⟨by kernel_rfl,rfl⟩) ?_
  refine wpAny_take (i:=9) (v:=undef) rfl (by kernel_rfl) (by kernel_rfl) (by kernel_rfl) (fun _ _ _ h=>h) (Or.inr ⟨by kernel_rfl,rfl⟩) ?_;refine wpAny_take (i:=10) (v:=undef) rfl (by kernel_rfl) (by kernel_rfl) (by kernel_rfl) (fun _ _ _ h=>h) (Or.inr ⟨by kernel_rfl,rfl⟩) ?_;refine wpAny_take (i:=11) (v:=undef) rfl (by kernel_rfl) (by kernel_rfl) (by kernel_rfl) (fun _ _ _ h=>h) (Or.inr ⟨by kernel_rfl,rfl⟩) ?_;refine wpAny_take (i:=12) (v:=undef) rfl (by kernel_rfl) (by kernel_rfl) (by kernel_rfl) (fun _ _ _ h=>h) (Or.inr ⟨by kernel_rfl,rfl⟩) ?_;refine wpAny_take (i:=13) (v:=undef) rfl (by kernel_rfl) (by kernel_rfl) (by kernel_rfl) (fun _ _ _ h=>h) (Or.inr ⟨by kernel_rfl,rfl⟩) ?_;refine wpAny_take (i:=14) (v:=undef) rfl (by kernel_rfl) (by kernel_rfl) (by kernel_rfl) (fun _ _ _ h=>h) (Or.inr ⟨by kernel_rfl,rfl⟩) ?_;refine wpAny_take (i:=15) (v:=undef) rfl (by kernel_rfl) (by kernel_rfl) (by kernel_rfl) (fun _ _ _ h=>h) (Or.inr ⟨by kernel_rfl,rfl⟩) ?_;refine wpAny_take (i:=16) (v:=undef) rfl (by kernel_rfl) (by kernel_rfl) (by kernel_rfl) (fun _ _ _ h=>h) (Or.inr ⟨by kernel_rfl,rfl⟩) ?_;refine wpAny_take (i:=17) (v:=undef) rfl (by kernel_rfl) (by kernel_rfl) (by kernel_rfl) (fun _ _ _ h=>h) (Or.inr ⟨by kernel_rfl,rfl⟩) ?_;refine wpAny_take (i:=18) (v:=undef) rfl (by kernel_rfl) (by kernel_rfl) (by kernel_rfl) (fun _ _ _ h=>h) (Or.inr ⟨by kernel_rfl,rfl⟩) ?_
  refine wpAny_take (i:=19) (v:=undef) rfl (by kernel_rfl) (by kernel_rfl) (by kernel_rfl) (fun _ _ _ h=>h) (Or.inr ⟨by kernel_rfl,rfl⟩) ?_;refine wpAny_take (i:=20) (v:=.bool true) rfl (by kernel_rfl) (by kernel_rfl) (by kernel_rfl) (fun _ _ _ h=>h) (Or.inl ⟨by kernel_rfl,fun w=>by first|(go_simp;done)|rfl⟩) ?_;refine wpAny_take (i:=21) (v:=.bool true) rfl (by kernel_rfl) (by kernel_rfl) (by kernel_rfl) (fun _ _ _ h=>h) (Or.inl ⟨by kernel_rfl,fun w=>by first|(go_simp;done)|rfl⟩) ?_;refine wpAny_done (by kernel_rfl) ?_ _;go_wp2;go_ret;refine⟨?_,(aliasBr.alloc Ad _).drew⟩
  kernel_rfl
 | true =>
  have HJ:=Aa hj;clear hj;by_cases h0:0≤a
  ·go_enter Tryz.func239,Tryz.ntmps239;go_wp2_with fail
   go_region_held3 (fun w'=>w'.cell? ⟨X,0,none⟩=some (.int .i64 op)∧w'.cell? ⟨X,1,none⟩=some (.int .i64 a)∧w'.cell? ⟨PB,0,none⟩=some (.pointer (some ⟨P,0,none⟩))∧w'.cell? ⟨AT,0,none⟩=some (.int .i64 at_)∧w'.cell? ⟨P,0,none⟩=some (.slice A n c)) (go_keep)
    (first|(go_at_call 240;refine(Fp op a _).mono ?_;rintro e w' ⟨rfl,rfl⟩;rw[HJ.out]))
   go_wp2;go_ret;exact⟨Bm (by rw[IntWalk.i64_in ((n:Int)-1) (by omega),IntWalk.i64_in _ (by omega)];simp[h0]),(aliasBr.alloc Ad _).drew⟩
  ·have hd0:decide (0≤a)=false:=by simpa using h0
   go_enter Tryz.func239,Tryz.ntmps239;go_wp2_with fail
   refine wp_region_any (by kernel_rfl) ?_;change wpAny _ _ _ _ _ _ _ (World.drew _);refine wpAny_ready (rs:=[0]) (by kernel_rfl) (by simp) ?_;refine AllReady.cons rfl (fun K hK=>?_) AllReady.nil;go_simp;refine hK _ _ ?_;clear hK K;refine wpAny_ready (rs:=[1]) (by kernel_rfl) (by simp) ?_;refine AllReady.cons rfl (fun K hK=>?_) AllReady.nil;go_simp;refine(Fp op a _).mono ?_;rintro e w' ⟨rfl,rfl⟩;rw[HJ.out];dsimp only;refine hK _ _ ?_;clear hK K;refine wpAny_take (i:=2) (v:=.bool false) rfl (by kernel_rfl) (by kernel_rfl) (by kernel_rfl) (fun _ _ _ h=>h) (Or.inl ⟨by kernel_rfl,fun w=>by first|(go_simp;done)|rfl⟩) ?_;refine wpAny_take (i:=3) (v:=.bool false) rfl (by kernel_rfl) (by kernel_rfl) (by kernel_rfl) (fun _ _ _ h=>h) (Or.inl ⟨by kernel_rfl,fun w=>by first|(go_simp;done)|rfl⟩) ?_;refine wpAny_take (i:=4) (v:=.pointer (some ⟨X,1,none⟩)) rfl (by kernel_rfl) (by kernel_rfl) (by kernel_rfl) (fun _ _ _ h=>h) (Or.inl ⟨by kernel_rfl,fun w=>by first|(go_simp;done)|rfl⟩) ?_;refine wpAny_ready (rs:=[5]) (by kernel_rfl) (by simp) ?_;refine AllReady.cons rfl (fun K hK=>?_) AllReady.nil;go_simp;refine hK _ _ ?_;clear hK K;refine wpAny_take (i:=6) (v:=.bool false) rfl (by kernel_rfl) (by kernel_rfl) (by kernel_rfl) (fun _ _ _ h=>h) (Or.inl ⟨by kernel_rfl,fun w=>by first|(go_simp;done)|rfl⟩) ?_;refine wpAny_take (i:=7) (v:=.bool false) rfl (by kernel_rfl) (by kernel_rfl) (by kernel_rfl) (fun _ _ _ h=>h) (Or.inl ⟨by kernel_rfl,fun w=>by first|(go_simp;done)|rfl⟩) ?_
   refine wpAny_take (i:=8) (v:=undef) rfl (by kernel_rfl) (by kernel_rfl) (by kernel_rfl) (fun _ _ _ h=>h) (Or.inr ⟨by kernel_rfl,rfl⟩) ?_;refine wpAny_take (i:=9) (v:=undef) rfl (by kernel_rfl) (by kernel_rfl) (by kernel_rfl) (fun _ _ _ h=>h) (Or.inr ⟨by kernel_rfl,rfl⟩) ?_;refine wpAny_take (i:=10) (v:=undef) rfl (by kernel_rfl) (by kernel_rfl) (by kernel_rfl) (fun _ _ _ h=>h) (Or.inr ⟨by kernel_rfl,rfl⟩) ?_;refine wpAny_take (i:=11) (v:=undef) rfl (by kernel_rfl) (by kernel_rfl) (by kernel_rfl) (fun _ _ _ h=>h) (Or.inr ⟨by kernel_rfl,rfl⟩) ?_;refine wpAny_take (i:=12) (v:=undef) rfl (by kernel_rfl) (by kernel_rfl) (by kernel_rfl) (fun _ _ _ h=>h) (Or.inr ⟨by kernel_rfl,rfl⟩) ?_;refine wpAny_take (i:=13) (v:=undef) rfl (by kernel_rfl) (by kernel_rfl) (by kernel_rfl) (fun _ _ _ h=>h) (Or.inr ⟨by kernel_rfl,rfl⟩) ?_;refine wpAny_take (i:=14) (v:=undef) rfl (by kernel_rfl) (by kernel_rfl) (by kernel_rfl) (fun _ _ _ h=>h) (Or.inr ⟨by kernel_rfl,rfl⟩) ?_;refine wpAny_take (i:=15) (v:=undef) rfl (by kernel_rfl) (by kernel_rfl) (by kernel_rfl) (fun _ _ _ h=>h) (Or.inr ⟨by kernel_rfl,rfl⟩) ?_;refine wpAny_take (i:=16) (v:=undef) rfl (by kernel_rfl) (by kernel_rfl) (by kernel_rfl) (fun _ _ _ h=>h) (Or.inr ⟨by kernel_rfl,rfl⟩) ?_;refine wpAny_take (i:=17) (v:=undef) rfl (by kernel_rfl) (by kernel_rfl) (by kernel_rfl) (fun _ _ _ h=>h) (Or.inr ⟨by kernel_rfl,rfl⟩) ?_
   refine wpAny_take (i:=18) (v:=undef) rfl (by kernel_rfl) (by kernel_rfl) (by kernel_rfl) (fun _ _ _ h=>h) (Or.inr ⟨by kernel_rfl,rfl⟩) ?_;refine wpAny_take (i:=19) (v:=.bool false) rfl (by kernel_rfl) (by kernel_rfl) (by kernel_rfl) (fun _ _ _ h=>h) (Or.inl ⟨by kernel_rfl,fun w=>by first|(go_simp;done)|rfl⟩) ?_;refine wpAny_take (i:=20) (v:=.bool false) rfl (by kernel_rfl) (by kernel_rfl) (by kernel_rfl) (fun _ _ _ h=>h) (Or.inl ⟨by kernel_rfl,fun w=>by first|(go_simp;done)|rfl⟩) ?_;refine wpAny_take (i:=21) (v:=.bool false) rfl (by kernel_rfl) (by kernel_rfl) (by kernel_rfl) (fun _ _ _ h=>h) (Or.inl ⟨by kernel_rfl,fun w=>by first|(go_simp;done)|rfl⟩) ?_;refine wpAny_done (by kernel_rfl) ?_ _;go_wp2;go_ret;refine⟨?_,(aliasBr.alloc Ad _).drew⟩;rw[hd0]
   kernel_rfl
theorem al3 (X PB P:Nat) (op a:Int) (A:Option Addr) (n c:Nat) (c0 c2 c3 c4:Value) (w:World) (hX:Blk w X 96 #[.int .i64 op,.int .i64 a]) (hPB:Blk w PB 193 #[.pointer (some ⟨P,0,none⟩)])
  (hP:Blk w P 200 #[c0,.slice A n c,c2,c3,c4]) :
  Calls Tryz.prog 241 #[.pointer (some ⟨X,0,none⟩),.pointer (some ⟨PB,0,none⟩)] w fun e w'=>e=.returned (.bool (!(Bd.calls op && !(decide (0≤a) && decide (a<n)))))∧Below w.heap.size w w':=by
 have x0:w.cell? ⟨X,0,none⟩=some (.int .i64 op):=by rw[hX.cell];rfl
 have x1:w.cell? ⟨X,1,none⟩=some (.int .i64 a):=by rw[hX.cell];rfl
 have q0:w.cell? ⟨PB,0,none⟩=some (.pointer (some ⟨P,0,none⟩)):=by rw[hPB.cell];rfl
 have p0:w.cell? ⟨P,1,none⟩=some (.slice A n c):=by rw[hP.cell];rfl
 have l1:=hX.lt;have l2:=hPB.lt;have l4:=hP.lt;clear hX hPB hP;cases hj:Bd.calls op with
 | false =>
  have HJ:=Aa hj;clear hj;go_enter Tryz.func241,Tryz.ntmps241;go_wp2_with fail
  refine wp_region_any (by kernel_rfl) ?_;change wpAny _ _ _ _ _ _ _ (World.drew _);refine wpAny_ready (rs:=[0]) (by kernel_rfl) (by simp) ?_;refine AllReady.cons rfl (fun K hK=>?_) AllReady.nil;go_simp;refine hK _ _ ?_;clear hK K;refine wpAny_ready (rs:=[1]) (by kernel_rfl) (by simp) ?_;refine AllReady.cons rfl (fun K hK=>?_) AllReady.nil;go_simp;refine(Fu op a _).mono ?_;rintro e w' ⟨rfl,rfl⟩;rw[HJ.out];dsimp only;refine hK _ _ ?_;clear hK K;refine wpAny_take (i:=2) (v:=.bool true) rfl (by kernel_rfl) (by kernel_rfl) (by kernel_rfl) (fun _ _ _ h=>h) (Or.inl ⟨by kernel_rfl,fun w=>by first|(go_simp;done)|rfl⟩) ?_;refine wpAny_take (i:=3) (v:=.bool true) rfl (by kernel_rfl) (by kernel_rfl) (by kernel_rfl) (fun _ _ _ h=>h) (Or.inl ⟨by kernel_rfl,fun w=>by first|(go_simp;done)|rfl⟩) ?_;refine wpAny_take (i:=4) (v:=undef) rfl (by kernel_rfl) (by kernel_rfl) (by kernel_rfl) (fun _ _ _ h=>h) (Or.inr ⟨by kernel_rfl,rfl⟩) ?_;refine wpAny_take (i:=5) (v:=undef) rfl (by kernel_rfl) (by kernel_rfl) (by kernel_rfl) (fun _ _ _ h=>h) (Or.inr ⟨by kernel_rfl,rfl⟩) ?_;refine wpAny_take (i:=6) (v:=undef) rfl (by kernel_rfl) (by kernel_rfl) (by kernel_rfl) (fun _ _ _ h=>h) (Or.inr ⟨by kernel_rfl,rfl⟩) ?_;refine wpAny_take (i:=7) (v:=undef) rfl (by kernel_rfl) (by kernel_rfl) (by kernel_rfl) (fun _ _ _ h=>h) (Or.inr ⟨by kernel_rfl,rfl⟩) ?_;refine wpAny_take (i:=8) (v:=undef) rfl (by kernel_rfl) (by kernel_rfl) (by kernel_rfl) (fun _ _ _ h=>h) (Or.inr ⟨by kernel_rfl,rfl⟩) ?_
  refine wpAny_take (i:=9) (v:=undef) rfl (by kernel_rfl) (by kernel_rfl) (by kernel_rfl) (fun _ _ _ h=>h) (Or.inr ⟨by kernel_rfl,rfl⟩) ?_;refine wpAny_take (i:=10) (v:=undef) rfl (by kernel_rfl) (by kernel_rfl) (by kernel_rfl) (fun _ _ _ h=>h) (Or.inr ⟨by kernel_rfl,rfl⟩) ?_;refine wpAny_take (i:=11) (v:=undef) rfl (by kernel_rfl) (by kernel_rfl) (by kernel_rfl) (fun _ _ _ h=>h) (Or.inr ⟨by kernel_rfl,rfl⟩) ?_;refine wpAny_take (i:=12) (v:=undef) rfl (by kernel_rfl) (by kernel_rfl) (by kernel_rfl) (fun _ _ _ h=>h) (Or.inr ⟨by kernel_rfl,rfl⟩) ?_;refine wpAny_take (i:=13) (v:=undef) rfl (by kernel_rfl) (by kernel_rfl) (by kernel_rfl) (fun _ _ _ h=>h) (Or.inr ⟨by kernel_rfl,rfl⟩) ?_;refine wpAny_take (i:=14) (v:=undef) rfl (by kernel_rfl) (by kernel_rfl) (by kernel_rfl) (fun _ _ _ h=>h) (Or.inr ⟨by kernel_rfl,rfl⟩) ?_;refine wpAny_take (i:=15) (v:=undef) rfl (by kernel_rfl) (by kernel_rfl) (by kernel_rfl) (fun _ _ _ h=>h) (Or.inr ⟨by kernel_rfl,rfl⟩) ?_;refine wpAny_take (i:=16) (v:=undef) rfl (by kernel_rfl) (by kernel_rfl) (by kernel_rfl) (fun _ _ _ h=>h) (Or.inr ⟨by kernel_rfl,rfl⟩) ?_;refine wpAny_take (i:=17) (v:=.bool true) rfl (by kernel_rfl) (by kernel_rfl) (by kernel_rfl) (fun _ _ _ h=>h) (Or.inl ⟨by kernel_rfl,fun w=>by first|(go_simp;done)|rfl⟩) ?_;refine wpAny_take (i:=18) (v:=.bool true) rfl (by kernel_rfl) (by kernel_rfl) (by kernel_rfl) (fun _ _ _ h=>h) (Or.inl ⟨by kernel_rfl,fun w=>by first|(go_simp;done)|rfl⟩) ?_;refine wpAny_done (by kernel_rfl) ?_ _;go_wp2
  go_ret;refine⟨?_,(aliasBr.alloc Ad _).drew⟩
  kernel_rfl
 | true =>
  have HJ:=Aa hj;clear hj;by_cases h0:0≤a
  ·go_enter Tryz.func241,Tryz.ntmps241;go_wp2_with fail
   go_region_held3 (fun w'=>w'.cell? ⟨X,0,none⟩=some (.int .i64 op)∧w'.cell? ⟨X,1,none⟩=some (.int .i64 a)∧w'.cell? ⟨PB,0,none⟩=some (.pointer (some ⟨P,0,none⟩))∧w'.cell? ⟨P,1,none⟩=some (.slice A n c)) (go_keep)
    (first|(go_at_call 242;refine(Fu op a _).mono ?_;rintro e w' ⟨rfl,rfl⟩;rw[HJ.out]))
   go_wp2;go_ret;exact⟨Bm (by simp[h0]),(aliasBr.alloc Ad _).drew⟩
  ·have hd0:decide (0≤a)=false:=by simpa using h0
   go_enter Tryz.func241,Tryz.ntmps241;go_wp2_with fail
   refine wp_region_any (by kernel_rfl) ?_;change wpAny _ _ _ _ _ _ _ (World.drew _);refine wpAny_ready (rs:=[0]) (by kernel_rfl) (by simp) ?_;refine AllReady.cons rfl (fun K hK=>?_) AllReady.nil;go_simp;refine hK _ _ ?_;clear hK K;refine wpAny_ready (rs:=[1]) (by kernel_rfl) (by simp) ?_;refine AllReady.cons rfl (fun K hK=>?_) AllReady.nil;go_simp;refine(Fu op a _).mono ?_;rintro e w' ⟨rfl,rfl⟩;rw[HJ.out];dsimp only;refine hK _ _ ?_;clear hK K;refine wpAny_take (i:=2) (v:=.bool false) rfl (by kernel_rfl) (by kernel_rfl) (by kernel_rfl) (fun _ _ _ h=>h) (Or.inl ⟨by kernel_rfl,fun w=>by first|(go_simp;done)|rfl⟩) ?_;refine wpAny_take (i:=3) (v:=.bool false) rfl (by kernel_rfl) (by kernel_rfl) (by kernel_rfl) (fun _ _ _ h=>h) (Or.inl ⟨by kernel_rfl,fun w=>by first|(go_simp;done)|rfl⟩) ?_;refine wpAny_take (i:=4) (v:=.pointer (some ⟨X,1,none⟩)) rfl (by kernel_rfl) (by kernel_rfl) (by kernel_rfl) (fun _ _ _ h=>h) (Or.inl ⟨by kernel_rfl,fun w=>by first|(go_simp;done)|rfl⟩) ?_;refine wpAny_ready (rs:=[5]) (by kernel_rfl) (by simp) ?_;refine AllReady.cons rfl (fun K hK=>?_) AllReady.nil;go_simp;refine hK _ _ ?_;clear hK K;refine wpAny_take (i:=6) (v:=.bool false) rfl (by kernel_rfl) (by kernel_rfl) (by kernel_rfl) (fun _ _ _ h=>h) (Or.inl ⟨by kernel_rfl,fun w=>by first|(go_simp;done)|rfl⟩) ?_;refine wpAny_take (i:=7) (v:=.bool false) rfl (by kernel_rfl) (by kernel_rfl) (by kernel_rfl) (fun _ _ _ h=>h) (Or.inl ⟨by kernel_rfl,fun w=>by first|(go_simp;done)|rfl⟩) ?_
   refine wpAny_take (i:=8) (v:=undef) rfl (by kernel_rfl) (by kernel_rfl) (by kernel_rfl) (fun _ _ _ h=>h) (Or.inr ⟨by kernel_rfl,rfl⟩) ?_;refine wpAny_take (i:=9) (v:=undef) rfl (by kernel_rfl) (by kernel_rfl) (by kernel_rfl) (fun _ _ _ h=>h) (Or.inr ⟨by kernel_rfl,rfl⟩) ?_;refine wpAny_take (i:=10) (v:=undef) rfl (by kernel_rfl) (by kernel_rfl) (by kernel_rfl) (fun _ _ _ h=>h) (Or.inr ⟨by kernel_rfl,rfl⟩) ?_;refine wpAny_take (i:=11) (v:=undef) rfl (by kernel_rfl) (by kernel_rfl) (by kernel_rfl) (fun _ _ _ h=>h) (Or.inr ⟨by kernel_rfl,rfl⟩) ?_;refine wpAny_take (i:=12) (v:=undef) rfl (by kernel_rfl) (by kernel_rfl) (by kernel_rfl) (fun _ _ _ h=>h) (Or.inr ⟨by kernel_rfl,rfl⟩) ?_;refine wpAny_take (i:=13) (v:=undef) rfl (by kernel_rfl) (by kernel_rfl) (by kernel_rfl) (fun _ _ _ h=>h) (Or.inr ⟨by kernel_rfl,rfl⟩) ?_;refine wpAny_take (i:=14) (v:=undef) rfl (by kernel_rfl) (by kernel_rfl) (by kernel_rfl) (fun _ _ _ h=>h) (Or.inr ⟨by kernel_rfl,rfl⟩) ?_;refine wpAny_take (i:=15) (v:=undef) rfl (by kernel_rfl) (by kernel_rfl) (by kernel_rfl) (fun _ _ _ h=>h) (Or.inr ⟨by kernel_rfl,rfl⟩) ?_;refine wpAny_take (i:=16) (v:=.bool false) rfl (by kernel_rfl) (by kernel_rfl) (by kernel_rfl) (fun _ _ _ h=>h) (Or.inl ⟨by kernel_rfl,fun w=>by first|(go_simp;done)|rfl⟩) ?_;refine wpAny_take (i:=17) (v:=.bool false) rfl (by kernel_rfl) (by kernel_rfl) (by kernel_rfl) (fun _ _ _ h=>h) (Or.inl ⟨by kernel_rfl,fun w=>by first|(go_simp;done)|rfl⟩) ?_
   refine wpAny_take (i:=18) (v:=.bool false) rfl (by kernel_rfl) (by kernel_rfl) (by kernel_rfl) (fun _ _ _ h=>h) (Or.inl ⟨by kernel_rfl,fun w=>by first|(go_simp;done)|rfl⟩) ?_;refine wpAny_done (by kernel_rfl) ?_ _;go_wp2;go_ret;refine⟨?_,(aliasBr.alloc Ad _).drew⟩;rw[hd0]
   kernel_rfl
end Go.Proofs.YtnhebmgibiomnaaGreat
namespace Go.Proofs.YtnhebmgibiomnaaGreat
open Go.RowKit
theorem re1 (X PB P B:Nat) (op a:Int) (Af:Option Addr) (m cf:Nat) (fs:List Bd.Cost) (c0 c2 c3 c4:Value) (w:World) (hX:Blk w X 96 #[.int .i64 op,.int .i64 a]) (hPB:Blk w PB 193 #[.pointer (some ⟨P,0,none⟩)])
  (hP:Blk w P 200 #[c0,.slice Af m cf,c2,c3,c4]) (hF:Reads w B 4 Af m (Bk fs)) (hm:m=fs.length) (ha:op=38→0≤a∧a<m) :
  Calls Tryz.prog 244 #[.pointer (some ⟨X,0,none⟩),.pointer (some ⟨PB,0,none⟩)] w fun e w'=>e=.returned (.bool (!(decide (op=38) && !((Bd.fn fs a).delta==0))))∧Below w.heap.size w w':=by
 have x0:w.cell? ⟨X,0,none⟩=some (.int .i64 op):=by rw[hX.cell];rfl
 have x1:w.cell? ⟨X,1,none⟩=some (.int .i64 a):=by rw[hX.cell];rfl
 have q0:w.cell? ⟨PB,0,none⟩=some (.pointer (some ⟨P,0,none⟩)):=by rw[hPB.cell];rfl
 have p0:w.cell? ⟨P,1,none⟩=some (.slice Af m cf):=by rw[hP.cell];rfl
 clear hX hPB hP;by_cases h38:op=38
 ·subst h38;obtain⟨ha0,ha1⟩:=ha rfl;obtain⟨an,rfl⟩:=Int.eq_ofNat_of_zero_le ha0;obtain⟨cc,hcc⟩:∃ cc,fs[an]?=some cc:=⟨_,List.getElem?_eq_getElem (by omega)⟩;have HF:=Aa (show Bd.fn fs (an:Int)=cc by unfold Bd.fn;rw[List.getD_eq_getElem?_getD];simp[hcc]);obtain⟨b,off,rfl,hbB,hcells⟩:=hF.2 (by omega);obtain⟨_,g1,_,_⟩:=Eh fs an cc hcc;have d1:=hcells _ _ g1;rw[←Nat.add_assoc] at d1;have ham:an<m:=by omega
  clear hcells g1 hcc hF hm ha;go_enter Tryz.func244,Tryz.ntmps244;go_wp2_with fail
  go_quiet (fail);go_wp2;go_ret;exact⟨Bm (by rw[HF.out];simp),below_drewN aliasBr _⟩
 ·have hb:(op !=38)=true:=by simpa using h38
  have hb2:(op==38)=false:=by simpa using h38
  clear ha hm hF;go_enter Tryz.func244,Tryz.ntmps244;go_wp2_with fail
  go_quiet (fail);go_wp2;go_ret;exact⟨Bm (by simp[h38]),below_drewN aliasBr _⟩
theorem re2 (PB P:Nat) (c0 c1 c2:Value) (need peak:Int) (w:World) (hPB:Blk w PB 193 #[.pointer (some ⟨P,0,none⟩)])
  (hP:Blk w P 200 #[c0,c1,c2,.int .i64 need,.int .i64 peak]) :
  Calls Tryz.prog 245 #[.pointer (some ⟨PB,0,none⟩)] w fun e w'=>e=.returned (.bool (decide (need≤32) && decide (peak≤32)))∧Below w.heap.size w w':=by
 have q0:w.cell? ⟨PB,0,none⟩=some (.pointer (some ⟨P,0,none⟩)):=by rw[hPB.cell];rfl
 have p3:w.cell? ⟨P,3,none⟩=some (.int .i64 need):=by rw[hP.cell];rfl
 have p4:w.cell? ⟨P,4,none⟩=some (.int .i64 peak):=by rw[hP.cell];rfl
 clear hPB hP;go_enter Tryz.func245,Tryz.ntmps245;go_wp2
 all_goals (go_ret;go_light;refine⟨Bm ?_,aliasBr⟩;(simp_all <;> omega))
theorem re4 (E:Nat) (c0 c1 c2:Value) (steps:Int) (w:World) (hE:Blk w E 238 #[c0,c1,c2,.int .i64 steps]) :
  Calls Tryz.prog 248 #[.pointer (some ⟨E,0,none⟩)] w fun e w'=>e=.returned (.bool (decide (steps≤4096)))∧Below w.heap.size w w':=by
 have p3:w.cell? ⟨E,3,none⟩=some (.int .i64 steps):=by rw[hE.cell];rfl
 clear hE;go_enter Tryz.func248,Tryz.ntmps248;go_wp2;go_ret;exact⟨rfl,aliasBr⟩
theorem Qh (at_ op a:Int) (w:World) :
  Calls Tryz.prog 165 #[.int .i64 at_,.agg #[.int .i64 op,.int .i64 a]] w fun e w'=>e=.returned (.func (.func 249) #[] #[.pointer (some ⟨w.heap.size+1,0,none⟩),.pointer (some ⟨w.heap.size,0,none⟩)])∧(w.alloc (.cells #[.int .i64 at_] 3)).alloc (.cells #[.int .i64 op,.int .i64 a] 96)=w':=by
 go_enter Tryz.func165,Tryz.ntmps165;go_wp2;go_ret;exact⟨rfl,rfl⟩
theorem Hr (q:Option Addr) (at_ op a:Int) (w:World) :
  Calls Tryz.prog 162 #[.pointer q,.int .i64 at_,.agg #[.int .i64 op,.int .i64 a]] w fun e w'=>e=.returned (.slice (some ⟨w.heap.size+1+1+1,0,none⟩) 3 3) ∧
   (((w.alloc (.cells #[.pointer q] 193)).alloc (.cells #[.int .i64 at_] 3)).alloc (.cells #[.int .i64 op,.int .i64 a] 96)).alloc (.cells #[.func (.func 238) #[] #[.pointer (some ⟨w.heap.size+1+1,0,none⟩)],.int .i64 50,.func (.func 239) #[] #[.pointer (some ⟨w.heap.size+1+1,0,none⟩),.pointer (some ⟨w.heap.size,0,none⟩),.pointer (some ⟨w.heap.size+1,0,none⟩)],.int .i64 52,.func (.func 241) #[] #[.pointer (some ⟨w.heap.size+1+1,0,none⟩),.pointer (some ⟨w.heap.size,0,none⟩)],.int .i64 54] 263)=w':=by
 go_enter Tryz.func162,Tryz.ntmps162;go_wp2;go_ret;exact⟨rfl,rfl⟩
theorem Ox (q:Option Addr) (at_ op a e0 e1 e2 e3:Int) (w:World) :
  Calls Tryz.prog 164 #[.pointer q,.int .i64 at_,.agg #[.int .i64 op,.int .i64 a],.agg #[.int .i64 e0,.int .i64 e1,.int .i64 e2,.int .i64 e3]] w fun e w'=>e=.returned (.slice (some ⟨w.heap.size+1+1+1+1,0,none⟩) 4 4) ∧
   ((((w.alloc (.cells #[.pointer q] 193)).alloc (.cells #[.int .i64 at_] 3)).alloc (.cells #[.int .i64 op,.int .i64 a] 96)).alloc (.cells #[.int .i64 e0,.int .i64 e1,.int .i64 e2,.int .i64 e3] 238)).alloc (.cells #[.func (.func 244) #[] #[.pointer (some ⟨w.heap.size+1+1,0,none⟩),.pointer (some ⟨w.heap.size,0,none⟩)],.int .i64 51,.func (.func 245) #[] #[.pointer (some ⟨w.heap.size,0,none⟩)],.int .i64 51,
    .func (.func 246) #[] #[.pointer (some ⟨w.heap.size,0,none⟩),.pointer (some ⟨w.heap.size+1,0,none⟩),.pointer (some ⟨w.heap.size+1+1,0,none⟩),.pointer (some ⟨w.heap.size+1+1+1,0,none⟩)],.int .i64 51,.func (.func 248) #[] #[.pointer (some ⟨w.heap.size+1+1+1,0,none⟩)],.int .i64 53] 263)=w':=by
 go_enter Tryz.func164,Tryz.ntmps164;go_wp2;go_ret;exact⟨rfl,rfl⟩
end Go.Proofs.YtnhebmgibiomnaaGreat
namespace Go.Proofs.YtnhebmgibiomnaaGreat
open Go.RowKit Go.Shelf
attribute [local go_sem] Oper.semAt_some
abbrev Way (at_:Int) (x:Int×Int) := { t:Int // t∈Bd.ways at_ x }
def KpB (X AT:Nat) (W W':World):Prop:=∀ (b o:Nat) (v:Value),b=X∨b=AT→W.cell? ⟨b,o,none⟩=some v→W'.cell? ⟨b,o,none⟩=some v
def Zbp (n l X AT:Nat) (at_:Int) (x:Int×Int) (J Jx:List (Way at_ x)→World→Prop):Prop :=
 ∀ (pre:List (Way at_ x)) (t:Way at_ x) (W1:World),J pre W1→pre.length<2→YieldAt Fence.wide n Tryz.prog l #[.int .i64 t.1] W1 fun e W' =>
  (e=.returned (.bool true)∧J (pre++[t]) W'∧KpB X AT W1 W')∨(e=.returned (.bool false)∧Jx (pre++[t]) W')
theorem Abides.grow {β:Type} {B:Nat} {J:β→World→Prop} (h:AbidesFrom B J) {x:β} {W:World} (hj:J x W) (o:Obj):J x (W.alloc o) :=
 h x W _ none hj (World.grownBy_alloc _ _ _) (fun r e=>by cases e)
theorem Zcp (n l X AT:Nat) (at_ op a:Int) (J Jx:List (Way at_ (op,a))→World→Prop) (hn:1≤n) {B:Nat} (hJ:AbidesFrom B J) (hJx:AbidesFrom B Jx)
  (hY:Zbp (n-1) l X AT at_ (op,a) J Jx) (W:World) (hX0:W.cell? ⟨X,0,none⟩=some (.int .i64 op)) (hX1:W.cell? ⟨X,1,none⟩=some (.int .i64 a)) (hA:W.cell? ⟨AT,0,none⟩=some (.int .i64 at_)) (h0:J [] W)
  (b0:0≤at_) (b1:at_≤1000000000000000) (b2:Bd.jumps op=true→0≤a∧a≤1000000000000000) :
  CallsIn Fence.wide n Tryz.prog 249 #[.func (.yield l) #[] #[],.pointer (some ⟨X,0,none⟩),.pointer (some ⟨AT,0,none⟩)] W fun e W'=>(∃ v,e=.returned v) ∧
   ((∃ ys:List (Way at_ (op,a)),ys.map (·.1)=Bd.ways at_ (op,a)∧J ys W')∨(∃ pre:List (Way at_ (op,a)),True∧Jx pre W')):=by
 by_cases h35:op=35
 ·subst h35;obtain⟨b3,b4⟩:=b2 (by decide);have hw:Bd.ways at_ (35,a)=[at_+1+a]:=rfl;have ht:at_+1+a∈Bd.ways at_ (35,a):=by rw[hw];simp
  obtain⟨fn,tmps,assign,body,hy,hR⟩:=hY [] ⟨at_+1+a,ht⟩ (W.alloc (.cells #[.int .i64 35,.int .i64 a] 96)) (Abides.grow hJ h0 _) (by simp);have l1:=World.block_lt_of_cell? W _ hX0;have l2:=World.block_lt_of_cell? W _ hA;simp only at l1 l2 hy;have HR:=Aa hR;have HJ:=Aa hJ;have HJx:=Aa hJx;have HY:=Aa hY;have HW:=Aa hw;clear hR hJ hJx hY hw b2;refine callsIn_of_wp Tryz.func249 rfl trivial ?_ rfl;simp only[Tryz.ntmps249,List.size_toArray,List.length_cons,List.length_nil,Nat.reduceAdd,Nat.reduceSub,Array.replicate_succ,Array.replicate_zero,List.push_toArray,List.append_toArray,List.nil_append,List.cons_append]
  gi_wp2_with fail
  refine⟨fun _ h=>(by cases h),?_⟩
  gi_wp2_with fail
  refine⟨trivial,?_⟩;refine(callsIn_wide.2 (Fp 35 a _)).mono ?_;rintro e w' ⟨rfl,rfl⟩;rw[show Bd.jumps 35=true from rfl]
  gi_wp2
  refine HR.out.mono ?_;rintro e W3 (⟨rfl,hJ3,hk3⟩|⟨rfl,hJx3⟩)
  ·gi_wp2
   go_end0;exact⟨⟨_,rfl⟩,.inl ⟨[⟨at_+1+a,ht⟩],HW.out.symm,hJ3⟩⟩
  ·gi_wp2
   go_end0;exact⟨⟨_,rfl⟩,.inr ⟨_,trivial,hJx3⟩⟩
 ·have hne:(op !=35)=true:=by simpa using h35
  have hne2:(op==35)=false:=by simpa using h35
  have hw:Bd.ways at_ (op,a)=[at_+1]++(if Bd.jumps op=true then[at_+1+a] else[]):=by
   unfold Bd.ways;simp only;rw[if_neg h35]
  have ht:at_+1∈Bd.ways at_ (op,a):=by rw[hw];simp
  obtain⟨fn,tmps,assign,body,hy,hR⟩:=hY [] ⟨at_+1,ht⟩ W h0 (by simp);have l1:=World.block_lt_of_cell? W _ hX0;have l2:=World.block_lt_of_cell? W _ hA;simp only at l1 l2 hy;have HR:=Aa hR;have HJ:=Aa hJ;have HJx:=Aa hJx;have HY:=Aa hY;have HW:=Aa hw;have HB:=Aa b2;clear hR hJ hJx hY hw b2;refine callsIn_of_wp Tryz.func249 rfl trivial ?_ rfl;simp only[Tryz.ntmps249,List.size_toArray,List.length_cons,List.length_nil,Nat.reduceAdd,Nat.reduceSub,Array.replicate_succ,Array.replicate_zero,List.push_toArray,List.append_toArray,List.nil_append,List.cons_append]
  gi_wp2_with fail
  refine HR.out.mono ?_;clear hy;rintro e W3 (⟨rfl,hJ3,hk3⟩|⟨rfl,hJx3⟩)
  ·have y0:=hk3 X 0 _ (.inl rfl) hX0;have y1:=hk3 X 1 _ (.inl rfl) hX1;have ya:=hk3 AT 0 _ (.inr rfl) hA;have m1:=World.block_lt_of_cell? W3 _ y0;have m2:=World.block_lt_of_cell? W3 _ ya;simp only at m1 m2;have HJ3:=Aa hJ3;clear hX0 hX1 hA hk3 hJ3 HR
   gi_wp2_with fail
   refine⟨trivial,?_⟩;refine(callsIn_wide.2 (Fp op a _)).mono ?_;rintro e w' ⟨rfl,rfl⟩;cases hj:Bd.jumps op with
   | false =>
    have hw2:=HW.out;rw[hj] at hw2;have HW2:=Aa hw2;clear hj hw2
    gi_wp2
    go_end0;exact⟨⟨_,rfl⟩,.inl ⟨[⟨at_+1,ht⟩],by have h:=HW2.out.symm;simpa using h,Abides.grow HJ.out HJ3.out _⟩⟩
   | true =>
    obtain⟨b3,b4⟩:=HB.out hj;have hw2:=HW.out;rw[hj] at hw2;have ht2:at_+1+a∈Bd.ways at_ (op,a):=by rw[hw2];simp
    obtain⟨fn2,tmps2,assign2,body2,hy2,hR2⟩:=HY.out ([]++[⟨at_+1,ht⟩]) ⟨at_+1+a,ht2⟩ (W3.alloc (.cells #[.int .i64 op,.int .i64 a] 96)) (Abides.grow HJ.out HJ3.out _) (by simp);simp only at hy2;have HR2:=Aa hR2;have HW2:=Aa hw2;clear hj hw2 hR2
    gi_wp2
    refine HR2.out.mono ?_;rintro e W4 (⟨rfl,hJ4,hk4⟩|⟨rfl,hJx4⟩)
    ·gi_wp2
     go_end0;exact⟨⟨_,rfl⟩,.inl ⟨[⟨at_+1,ht⟩,⟨at_+1+a,ht2⟩],by have h:=HW2.out.symm;simpa using h,hJ4⟩⟩
    ·gi_wp2
     go_end0;exact⟨⟨_,rfl⟩,.inr ⟨_,trivial,hJx4⟩⟩
  ·gi_wp2
   refine bodyPost_ret (results_none rfl _ _ _) rfl ?_;exact⟨⟨_,rfl⟩,.inr ⟨_,trivial,hJx3⟩⟩
end Go.Proofs.YtnhebmgibiomnaaGreat
namespace Go.Proofs.YtnhebmgibiomnaaGreat
open Go.RowKit Go.Shelf
attribute [local go_sem] Oper.semAt_some
theorem Zay {X AT:Nat}:∀ {A B C:World},KpB X AT A B→KpB X AT B C→KpB X AT A C:=fun h k b o v hb hc=>k b o v hb (h b o v hb hc)
theorem Wx {X AT:Nat} (W:World) (l:Nat) (o o':Obj) (hl:W.heap[l]?=some o) (hc:o.isCells=false):KpB X AT W (W.putObj l o'):=by
 intro b f v _ h;exact cell_kept h (grownBy_putObj' W l o') (fun r e=>by cases e;exact⟨o,hl,hc⟩)
theorem Nm {X AT B:Nat} {W W':World} (h:Below B W W') (hX:X<B) (hA:AT<B):KpB X AT W W':=by
 intro b f v hb hc;rw[h.cell (p:=⟨b,f,none⟩) (by rcases hb with rfl|rfl <;> assumption)];exact hc
theorem Kn (n X AT:Nat) (at_ op a:Int) (hn:1≤n) (w:World) (hX0:w.cell? ⟨X,0,none⟩=some (.int .i64 op)) (hX1:w.cell? ⟨X,1,none⟩=some (.int .i64 a)) (hA:w.cell? ⟨AT,0,none⟩=some (.int .i64 at_))
  (b0:0≤at_) (b1:at_≤1000000000000000) (b2:Bd.jumps op=true→0≤a∧a≤1000000000000000) :
  SeqStopsK Fence.wide n Tryz.prog 249 #[.pointer (some ⟨X,0,none⟩),.pointer (some ⟨AT,0,none⟩)] (fun t:Way at_ (op,a)=>#[.int .i64 t.1]) (KpB X AT) (fun ys=>ys.map (·.1)=Bd.ways at_ (op,a)) (fun _=>True) 2 w:=by
 intro l J Jx W hW hJ hJx hY h0;have l1:=World.block_lt_of_cell? w _ hX0;have l2:=World.block_lt_of_cell? w _ hA;exact Zcp n l X AT at_ op a J Jx hn hJ hJx hY W ((hW.cell (p:=⟨X,0,none⟩) l1).trans hX0) ((hW.cell (p:=⟨X,1,none⟩) l1).trans hX1) ((hW.cell (p:=⟨AT,0,none⟩) l2).trans hA) h0 b0 b1 b2
theorem Ud (P G:Nat) (c0 c1 c3 c4:Value) (m mc:Nat) (pl:List Bd.Place) (at_ op a high:Int) (w:World) (hP:Blk w P 200 #[c0,c1,.slice (some ⟨G,0,none⟩) m mc,c3,c4]) (hG:Blk w G 197 (Bv pl).toArray)
  (hm:pl.length=m) (b0:0≤at_) (b1:at_≤1000000000000000) (b2:Bd.jumps op=true→0≤a∧a≤1000000000000000) (hw:∀ t∈Bd.ways at_ (op,a),0≤t∧t<m) :
  Calls Tryz.prog 247 #[.pointer (some ⟨P,0,none⟩),.int .i64 at_,.agg #[.int .i64 op,.int .i64 a],.int .i64 high] w fun e w'=>e=.returned (.bool (Bd.agrees pl at_ (op,a) high))∧Below w.heap.size w w':=by
 refine(callsIn_wide (n:=8)).1 ?_;refine callsIn_of_wp_marks Tryz.func247 rfl trivial ?_ rfl;simp only[Tryz.ntmps247,List.size_toArray,List.length_cons,List.length_nil,Nat.reduceAdd,Nat.reduceSub,Array.replicate_succ,Array.replicate_zero,List.push_toArray,List.append_toArray,List.nil_append,List.cons_append]
 gi_wp2_with fail
 refine⟨trivial,?_⟩;refine(callsIn_wide.2 (Qh at_ op a _)).mono ?_;rintro e w' ⟨rfl,rfl⟩
 gi_wp2_with fail
 have hPl:=hP.lt;have hGl:=hG.lt;obtain⟨N,hN⟩:∃ N,N=w.heap.size:=⟨_,rfl⟩;rw[←hN];obtain⟨W0,hW0⟩:∃ W0,(((((w.alloc (.cells #[.pointer (some ⟨P,0,none⟩)] 193)).alloc (.cells #[.int .i64 op,.int .i64 a] 96)).alloc (.cells #[.int .i64 high] 3)).alloc (.cells #[.bool false] 4)).alloc (.cells #[.int .i64 at_] 3)).alloc (.cells #[.int .i64 op,.int .i64 a] 96)=W0:=⟨_,rfl⟩;have hs0:W0.heap.size=N+6:=by rw[←hW0,hN];simp
 have hbw:Below w.heap.size w W0:=by rw[←hW0];exact(by repeat (first|exact aliasBr|assumption|(refine Below.setCell ?_ (by first|omega|(simp;done)|(simp;omega)) _)|(refine Below.drew ?_)|(refine below_drewN ?_ _)|(refine Below.alloc ?_ (by first|omega|(simp;done)|(simp;omega)) _)))
 have f0:Blk W0 N 193 #[.pointer (some ⟨P,0,none⟩)]:=by rw[←hW0,hN];exact(((((Blk.new _ _ _).alloc _).alloc _).alloc _).alloc _).alloc _
 have f2:Blk W0 (N+1+1) 3 #[.int .i64 high]:=by rw[←hW0,hN];exact(((Blk.new_at _ _ _ (by simp)).alloc _).alloc _).alloc _
 have f3:Blk W0 (N+1+1+1) 4 #[.bool false]:=by rw[←hW0,hN];exact((Blk.new_at _ _ _ (by simp)).alloc _).alloc _
 have f4:Blk W0 (N+1+1+1+1) 3 #[.int .i64 at_]:=by rw[←hW0,hN];exact(Blk.new_at _ _ _ (by simp)).alloc _
 have f5:Blk W0 (N+1+1+1+1+1) 96 #[.int .i64 op,.int .i64 a]:=by rw[←hW0,hN];exact Blk.new_at _ _ _ (by simp)
 have fP:=hP.below hbw hPl;have fG:=hG.below hbw hGl;rw[hW0];have HW0:=Aa hW0;have HN:=Aa hN;have hNw:w.heap.size≤W0.heap.size:=hbw.size;have hNN:N≤w.heap.size∧w.heap.size≤N:=by omega
 have hSS:W0.heap.size≤N+6∧N+6≤W0.heap.size:=by omega
 clear hW0 hN hs0;refine wpIn_rangeFunc_ownG (α:=Way at_ (op,a)) rfl (by omega) (gf:=249) (lb:=#[.pointer (some ⟨N+1+1+1+1+1,0,none⟩),.pointer (some ⟨N+1+1+1+1,0,none⟩)]) rfl trivial (enters_of Tryz.func249 (by kernel_rfl) rfl)
  (Kn 7 (N+1+1+1+1+1) (N+1+1+1+1) at_ op a (by omega) W0 (by rw[f5.cell];rfl) (by rw[f5.cell];rfl) (by rw[f4.cell];rfl) b0 b1 b2) Zay (fun W l o o' _ h1 h2 _=>Wx W l o o' h1 h2) aliasBr (fun _=>rfl)
  (fun pre W=>(∀ t∈pre,Bd.agree1 pl high t.1=true)∧Below W0.heap.size W0 W)
  (fun c _ W=>(c=.ret∧Bd.agrees pl at_ (op,a) high=false∧W.cell? ⟨N+1+1+1,0,none⟩=some (.bool false))∧Below w.heap.size w W)
  (OwnFrom.and (fun s A B row hs hg hr=>hs) (ownFrom_below Ad Ad))
  (fun c=>OwnFrom.and (fun s A B row hs hg hr=>⟨hs.1,hs.2.1,cell_kept hs.2.2 hg (fun r e=>(hr r e).2)⟩) (ownFrom_below Ad (by omega)))
  ⟨by simp,aliasBr⟩
  (fun x => { tmps:=#[.pointer (some ⟨P,0,none⟩),.int .i64 at_,.agg #[.int .i64 op,.int .i64 a],.int .i64 high,.pointer (some ⟨N,0,none⟩),undef,.pointer (some ⟨N+1,0,none⟩),.pointer (some ⟨N+1+1,0,none⟩),.pointer (some ⟨N+1+1+1,0,none⟩),.int .i64 x.1,undef,.int .i64 at_,.agg #[.int .i64 op,.int .i64 a],.func (.func 249) #[] #[.pointer (some ⟨N+1+1+1+1+1,0,none⟩),.pointer (some ⟨N+1+1+1+1,0,none⟩)],.int .i64 x.1,undef,undef,undef,undef,undef,undef,undef,undef,undef,undef,undef,undef,undef,undef,undef],defers:=[] }) ?assign ?body ?done ?stop
 case assign =>
  intro l x W K hK
  gi_wp2
  exact hK
 case body =>
  rintro l pre ⟨t,ht⟩ W ⟨hpre,hB⟩ _;obtain⟨t0,t1⟩:=hw t ht;obtain⟨tn,rfl⟩:=Int.eq_ofNat_of_zero_le t0;obtain⟨q,hq⟩:∃ q,pl[tn]?=some q:=⟨_,List.getElem?_eq_getElem (by omega)⟩;have hpat:Bd.pat pl (tn:Int)=q:=by unfold Bd.pat;rw[List.getD_eq_getElem?_getD];simp[hq]
  have hag:Bd.agree1 pl high (tn:Int) = !(q.known && (q.high !=high)):=by unfold Bd.agree1;rw[hpat]
  obtain⟨g0,g1,g2⟩:=Es pl tn q hq;have e0:W.cell? ⟨N,0,none⟩=some (.pointer (some ⟨P,0,none⟩)):=by rw[(f0.below hB f0.lt).cell];rfl
  have eP:W.cell? ⟨P,2,none⟩=some (.slice (some ⟨G,0,none⟩) m mc):=by rw[(fP.below hB fP.lt).cell];rfl
  have eh:W.cell? ⟨N+1+1,0,none⟩=some (.int .i64 high):=by rw[(f2.below hB f2.lt).cell];rfl
  have er:W.cell? ⟨N+1+1+1,0,none⟩=some (.bool false):=by rw[(f3.below hB f3.lt).cell];rfl
  have fr:W.frozen? ⟨N+1+1+1,0,none⟩=false:=(f3.below hB f3.lt).frozen 0;have d0:W.cell? ⟨G,tn*3,none⟩=some (.bool q.known):=by rw[(fG.below hB fG.lt).cell];simpa using g0
  have d1:W.cell? ⟨G,tn*3+1,none⟩=some (.int .i64 q.high):=by rw[(fG.below hB fG.lt).cell];simpa using g1
  have d2:W.cell? ⟨G,tn*3+2,none⟩=some (.int .i64 q.steps):=by rw[(fG.below hB fG.lt).cell];simpa using g2
  have htm:tn<m:=by omega
  have z1:N<W.heap.size:=by have:=hB.size;omega
  have z2:N+1+1<W.heap.size:=by have:=hB.size;omega
  have z3:N+1+1+1<W.heap.size:=by have:=hB.size;omega
  have z4:P<W.heap.size:=by have:=hB.size;omega
  have z5:G<W.heap.size:=by have:=hB.size;omega
  have HAG:=Aa hag;have HP:=Aa hpre;clear hag hpat g0 g1 g2 hq hw hpre f0 f2 f3 f4 f5 fP fG hP hG hm b2;obtain⟨qk,qh,qs⟩:=q;simp only at d0 d1 d2 HAG;cases qk with
  | false =>
   gi_wp2
   exact⟨(KeepsOthers.alloc _ _).from _,Nm (aliasBr.alloc Ad _) (by have:=hB.size;omega) (by have:=hB.size;omega),by
    intro t' ht';rcases List.mem_append.1 ht' with h|h
    ·exact HP.out t' h
    ·simp at h;subst h;exact HAG.out,hB.alloc hB.size _⟩
  | true =>
   by_cases hh:qh=high
   ·subst hh
    gi_wp2
    exact⟨(KeepsOthers.alloc _ _).from _,Nm (aliasBr.alloc Ad _) (by have:=hB.size;omega) (by have:=hB.size;omega),by
     intro t' ht';rcases List.mem_append.1 ht' with h|h
     ·exact HP.out t' h
     ·simp at h;subst h;rw[HAG.out];simp,hB.alloc hB.size _⟩
   ·have hne:(qh !=high)=true:=by simpa using hh
    gi_wp2
    refine⟨(KeepsOthers.trans (KeepsOthers.setCell _ _ _) (KeepsOthers.alloc _ _)).from _,⟨rfl,?_,?_⟩,?_⟩
    ·have h1:Bd.agree1 pl high (tn:Int)=false:=by rw[HAG.out];simp[hh]
     unfold Bd.agrees;rw[List.all_eq_false];exact⟨_,ht,by rw[h1];simp⟩
    ·rw[World.cell?_alloc_lt _ _ _ (by simpa [World.setCell] using z3)];exact World.cell?_setCell_same' _ _ _ (by rw[er];rfl)
    ·exact((hbw.trans (hB.mono hNw)).setCell (by simp only;omega) _).alloc (by have:=hB.size;simp[World.setCell];omega) _
 case done =>
  rintro D ys W hD hS ⟨hpre,hB⟩ hK;have hres:Bd.agrees pl at_ (op,a) high=true:=by
   unfold Bd.agrees;rw[←hS,List.all_eq_true];intro t ht;obtain⟨t',h1,rfl⟩:=List.mem_map.1 ht;exact hpre t' h1
  have er:W.cell? ⟨N+1+1+1,0,none⟩=some (.bool false):=by rw[(f3.below hB f3.lt).cell];rfl
  have fr:W.frozen? ⟨N+1+1+1,0,none⟩=false:=(f3.below hB f3.lt).frozen 0;have HRES:=Aa hres;clear hres hpre hS f0 f2 f3 f4 f5 fP fG hP hG hm b2 hw
  gi_wp2
  have hK':=(KeepsOthers.setCell W ⟨N+1+1+1,0,none⟩ (.bool true)).same D _ hK rfl;refine⟨by simp,.inl ⟨_,_,rfl,run_takeDeferred hK',?_⟩⟩;have hc5:=cell_kept (World.cell?_setCell_same' W ⟨N+1+1+1,0,none⟩ (.bool true) (by rw[er];rfl)) (grownBy_putObj' _ D (.deferred none)) (fun r e=>by cases e;exact⟨_,hK',rfl⟩);refine⟨.bool true,?_,by rw[HRES.out],?_⟩
  ·simp[results,Tryz.results247,go_sem,hc5]
  ·exact((hbw.trans (hB.mono hNw)).setCell (by simp only;omega) _).trans (belowK_b (w:=w) Ad _ D _ _ (by omega) hK' rfl rfl)
 case stop =>
  rintro D c pre W hD _ ⟨⟨rfl,hag,hcr⟩,hB⟩ hK;have HAG:=Aa hag;clear hag f0 f2 f3 f4 f5 fP fG hP hG hm b2 hw
  gi_wp2
  refine⟨by simp,.inl ⟨_,_,rfl,run_takeDeferred hK,?_⟩⟩;have hc5:=cell_kept hcr (grownBy_putObj' _ D (.deferred none)) (fun r e=>by cases e;exact⟨_,hK,rfl⟩);refine⟨.bool false,?_,by rw[HAG.out],?_⟩
  ·simp[results,Tryz.results247,go_sem,hc5]
  ·exact hB.trans (belowK_b (w:=w) Ad _ D _ _ (by omega) hK rfl rfl)
end Go.Proofs.YtnhebmgibiomnaaGreat
namespace Go.Proofs.YtnhebmgibiomnaaGreat
open Go.RowKit
theorem re3 (PB AT X E P G:Nat) (c0 c1 c3 c4 e0 e1 e3:Value) (m mc:Nat) (pl:List Bd.Place) (at_ op a high:Int) (w:World) (hPB:Blk w PB 193 #[.pointer (some ⟨P,0,none⟩)]) (hAT:Blk w AT 3 #[.int .i64 at_]) (hX:Blk w X 96 #[.int .i64 op,.int .i64 a]) (hE:Blk w E 238 #[e0,e1,.int .i64 high,e3])
  (hP:Blk w P 200 #[c0,c1,.slice (some ⟨G,0,none⟩) m mc,c3,c4]) (hG:Blk w G 197 (Bv pl).toArray)
  (hm:pl.length=m) (b0:0≤at_) (b1:at_≤1000000000000000) (b2:Bd.jumps op=true→0≤a∧a≤1000000000000000) (hw:∀ t∈Bd.ways at_ (op,a),0≤t∧t<m) :
  Calls Tryz.prog 246 #[.pointer (some ⟨PB,0,none⟩),.pointer (some ⟨AT,0,none⟩),.pointer (some ⟨X,0,none⟩),.pointer (some ⟨E,0,none⟩)] w fun e w'=>e=.returned (.bool (Bd.agrees pl at_ (op,a) high))∧Below w.heap.size w w':=by
 have q0:w.cell? ⟨PB,0,none⟩=some (.pointer (some ⟨P,0,none⟩)):=by rw[hPB.cell];rfl
 have t0:w.cell? ⟨AT,0,none⟩=some (.int .i64 at_):=by rw[hAT.cell];rfl
 have x0:w.cell? ⟨X,0,none⟩=some (.int .i64 op):=by rw[hX.cell];rfl
 have x1:w.cell? ⟨X,1,none⟩=some (.int .i64 a):=by rw[hX.cell];rfl
 have y2:w.cell? ⟨E,2,none⟩=some (.int .i64 high):=by rw[hE.cell];rfl
 have HC:=Aa (Ud P G c0 c1 c3 c4 m mc pl at_ op a high w hP hG hm b0 b1 b2 hw);clear hPB hAT hX hE hP hG hm b2 hw;go_enter Tryz.func246,Tryz.ntmps246;go_wp2_with fail
 refine HC.out.mono ?_;rintro e w' ⟨rfl,hb⟩;go_wp2;go_ret;exact⟨rfl,hb⟩
theorem Fs (R X PB AT P:Nat) (op a at_:Int) (A A':Option Addr) (n c m c':Nat) (c2 c3 c4:Value) (w:World)
  (hR:Blk w R 263 #[.func (.func 238) #[] #[.pointer (some ⟨X,0,none⟩)],.int .i64 50,.func (.func 239) #[] #[.pointer (some ⟨X,0,none⟩),.pointer (some ⟨PB,0,none⟩),.pointer (some ⟨AT,0,none⟩)],.int .i64 52,.func (.func 241) #[] #[.pointer (some ⟨X,0,none⟩),.pointer (some ⟨PB,0,none⟩)],.int .i64 54])
  (hX:Blk w X 96 #[.int .i64 op,.int .i64 a]) (hPB:Blk w PB 193 #[.pointer (some ⟨P,0,none⟩)]) (hAT:Blk w AT 3 #[.int .i64 at_])
  (hP:Blk w P 200 #[.slice A n c,.slice A' m c',c2,c3,c4]) (ha0:0≤at_) (ha1:at_≤n) (hn:n≤1000000000000000) :
  Calls Tryz.prog 161 #[.slice (some ⟨R,0,none⟩) 3 3] w fun e w'=>e=.returned (.int .i64 (Bd.always n m at_ (op,a)))∧Below w.heap.size w w':=by
 obtain⟨t1,ht1⟩:∃ t1,t1=decide (1≤op∧op≤39):=⟨_,rfl⟩;obtain⟨t2,ht2⟩:∃ t2,t2 = !(Bd.jumps op && !(decide (0≤a) && decide (a≤n-1-at_))):=⟨_,rfl⟩;obtain⟨t3,ht3⟩:∃ t3,t3 = !(Bd.calls op && !(decide (0≤a) && decide (a<m))):=⟨_,rfl⟩;have hfin:Bd.always n m at_ (op,a)=if t1=false then 50 else if t2=false then 52 else if t3=false then 54 else 0:=by
  unfold Bd.always;simp only;rw[ht1,ht2,ht3];simp
 rw[hfin];obtain⟨fin,hf⟩:∃ fin:Int,fin=if t1=false then 50 else if t2=false then 52 else if t3=false then 54 else 0:=⟨_,rfl⟩
 rw[←hf];have HF:=Aa hf;clear hf;have C1:∀ W,Below w.heap.size w W→Calls Tryz.prog 238 #[.pointer (some ⟨X,0,none⟩)] W fun e w'=>e=.returned (.bool t1)∧Below W.heap.size W w':=fun W h=>by rw[ht1];exact al1 X op a W (hX.below h hX.lt)
 have C2:∀ W,Below w.heap.size w W→Calls Tryz.prog 239 #[.pointer (some ⟨X,0,none⟩),.pointer (some ⟨PB,0,none⟩),.pointer (some ⟨AT,0,none⟩)] W fun e w'=>e=.returned (.bool t2)∧Below W.heap.size W w':=fun W h=>by rw[ht2];exact al2 X PB AT P op a at_ A n c _ _ _ _ W (hX.below h hX.lt) (hPB.below h hPB.lt) (hAT.below h hAT.lt) (hP.below h hP.lt) ha0 ha1 hn
 have C3:∀ W,Below w.heap.size w W→Calls Tryz.prog 241 #[.pointer (some ⟨X,0,none⟩),.pointer (some ⟨PB,0,none⟩)] W fun e w'=>e=.returned (.bool t3)∧Below W.heap.size W w':=fun W h=>by rw[ht3];exact al3 X PB P op a A' m c' _ _ _ _ W (hX.below h hX.lt) (hPB.below h hPB.lt) (hP.below h hP.lt)
 have HC1:=Aa C1;have HC2:=Aa C2;have HC3:=Aa C3;have HR:=Aa hR;have hRl:=hR.lt;clear C1 C2 C3 ht1 ht2 ht3 hfin hX hPB hAT hP ha0 ha1 hn hR;go_enter Tryz.func161,Tryz.ntmps161;go_wp2_with fail
 go_loopw [7] (fun i wr=>∃ k:Nat,k≤3∧i=.int .i64 k∧(0<k→t1=true)∧(1<k→t2=true)∧(2<k→t3=true)∧Below w.heap.size w wr) (fun i _=>3-(intOf i).toNat)
 case atStart=>exact⟨0,by omega,rfl,by simp,by simp,by simp,aliasBr⟩
 case round =>
  obtain⟨k,hk,rfl,k1,k2,k3,hB⟩:=hrel;have hbR:=HR.out.below hB hRl;have fr:=hbR.frozen;have hl:=hB.size
  match k,hk with
  | 0,_ =>
   have r0:wr.cell? ⟨R,0,none⟩=_:=hbR.cell 0;have r1:wr.cell? ⟨R,1,none⟩=_:=hbR.cell 1;simp at r0 r1;clear hbR fr;go_wp2_with fail
   refine(HC1.out _ (hB.alloc hl _)).mono ?_;rintro e w1 ⟨rfl,hb1⟩;have hbw:Below w.heap.size w w1:=(hB.alloc hl _).trans (hb1.mono (by simp;omega));have z0:w1.cell? ⟨wr.heap.size,1,none⟩=_:=hb1.cell (p:=⟨wr.heap.size,1,none⟩) (by simp);simp[go_sem] at z0;clear hb1;cases t1 with
   | false =>
    go_wp2;go_ret;exact⟨Dg (by have h:=HF.out;simp_all),hbw⟩
   | true =>
    go_wp2;go_roundw
    case rel=>exact⟨1,by omega,by go_num,by simp_all,by simp_all,by simp_all,hbw⟩
    case measure=>simp[intOf]
  | 1,_ =>
   have r0:wr.cell? ⟨R,2,none⟩=_:=hbR.cell 2;have r1:wr.cell? ⟨R,3,none⟩=_:=hbR.cell 3;simp at r0 r1;clear hbR fr;go_wp2_with fail
   refine(HC2.out _ (hB.alloc hl _)).mono ?_;rintro e w1 ⟨rfl,hb1⟩;have hbw:Below w.heap.size w w1:=(hB.alloc hl _).trans (hb1.mono (by simp;omega));have z0:w1.cell? ⟨wr.heap.size,1,none⟩=_:=hb1.cell (p:=⟨wr.heap.size,1,none⟩) (by simp);simp[go_sem] at z0;clear hb1;cases t2 with
   | false =>
    go_wp2;go_ret;exact⟨Dg (by have h:=HF.out;simp_all),hbw⟩
   | true =>
    go_wp2;go_roundw
    case rel=>exact⟨2,by omega,by go_num,by simp_all,by simp_all,by simp_all,hbw⟩
    case measure=>simp[intOf]
  | 2,_ =>
   have r0:wr.cell? ⟨R,4,none⟩=_:=hbR.cell 4;have r1:wr.cell? ⟨R,5,none⟩=_:=hbR.cell 5;simp at r0 r1;clear hbR fr;go_wp2_with fail
   refine(HC3.out _ (hB.alloc hl _)).mono ?_;rintro e w1 ⟨rfl,hb1⟩;have hbw:Below w.heap.size w w1:=(hB.alloc hl _).trans (hb1.mono (by simp;omega));have z0:w1.cell? ⟨wr.heap.size,1,none⟩=_:=hb1.cell (p:=⟨wr.heap.size,1,none⟩) (by simp);simp[go_sem] at z0;clear hb1;cases t3 with
   | false =>
    go_wp2;go_ret;exact⟨Dg (by have h:=HF.out;simp_all),hbw⟩
   | true =>
    go_wp2;go_roundw
    case rel=>exact⟨3,by omega,by go_num,by simp_all,by simp_all,by simp_all,hbw⟩
    case measure=>simp[intOf]
  | 3,_ =>
   clear hbR fr;go_wp2;go_ret;exact⟨Dg (by have h:=HF.out;simp_all),hB⟩
theorem Mb (R X PB AT E P G B:Nat) (op a at_ need peak:Int) (c0 e0 e1:Value) (Af:Option Addr) (m cf mp mc:Nat) (fs:List Bd.Cost) (pl:List Bd.Place) (high steps:Int) (w:World)
  (hR:Blk w R 263 #[.func (.func 244) #[] #[.pointer (some ⟨X,0,none⟩),.pointer (some ⟨PB,0,none⟩)],.int .i64 51,.func (.func 245) #[] #[.pointer (some ⟨PB,0,none⟩)],.int .i64 51,.func (.func 246) #[] #[.pointer (some ⟨PB,0,none⟩),.pointer (some ⟨AT,0,none⟩),.pointer (some ⟨X,0,none⟩),.pointer (some ⟨E,0,none⟩)],.int .i64 51,.func (.func 248) #[] #[.pointer (some ⟨E,0,none⟩)],.int .i64 53])
  (hX:Blk w X 96 #[.int .i64 op,.int .i64 a]) (hPB:Blk w PB 193 #[.pointer (some ⟨P,0,none⟩)]) (hAT:Blk w AT 3 #[.int .i64 at_]) (hE:Blk w E 238 #[e0,e1,.int .i64 high,.int .i64 steps])
  (hP:Blk w P 200 #[c0,.slice Af m cf,.slice (some ⟨G,0,none⟩) mp mc,.int .i64 need,.int .i64 peak]) (hF:Reads w B 4 Af m (Bk fs)) (hB0:B≤w.heap.size) (hm:m=fs.length) (hG:Blk w G 197 (Bv pl).toArray)
  (hmp:pl.length=mp) (ha:op=38→0≤a∧a<m) (b0:0≤at_) (b1:at_≤1000000000000000) (b2:Bd.jumps op=true→0≤a∧a≤1000000000000000) (hw:∀ t∈Bd.ways at_ (op,a),0≤t∧t<mp) (ee:Bd.Eff) (he1:ee.high=high) (he2:ee.steps=steps) :
  Calls Tryz.prog 161 #[.slice (some ⟨R,0,none⟩) 4 4] w fun e w'=>e=.returned (.int .i64 (Bd.reached fs pl need peak at_ (op,a) ee))∧Below w.heap.size w w':=by
 obtain⟨t1,ht1⟩:∃ t1,t1 = !(decide (op=38) && !((Bd.fn fs a).delta==0)):=⟨_,rfl⟩;obtain⟨t2,ht2⟩:∃ t2,t2=(decide (need≤32) && decide (peak≤32)):=⟨_,rfl⟩;obtain⟨t3,ht3⟩:∃ t3,t3=Bd.agrees pl at_ (op,a) high:=⟨_,rfl⟩;obtain⟨t4,ht4⟩:∃ t4,t4=decide (steps≤4096):=⟨_,rfl⟩;have hfin:Bd.reached fs pl need peak at_ (op,a) ee=if t1=false then 51 else if t2=false then 51 else if t3=false then 51 else if t4=false then 53 else 0:=by
  unfold Bd.reached;simp only;rw[ht1,ht2,ht3,ht4,he1,he2];simp
 rw[hfin];obtain⟨fin,hf⟩:∃ fin:Int,fin=if t1=false then 51 else if t2=false then 51 else if t3=false then 51 else if t4=false then 53 else 0:=⟨_,rfl⟩
 rw[←hf];have HF:=Aa hf;clear hf;have C1:∀ W,Below w.heap.size w W→Calls Tryz.prog 244 #[.pointer (some ⟨X,0,none⟩),.pointer (some ⟨PB,0,none⟩)] W fun e w'=>e=.returned (.bool t1)∧Below W.heap.size W w':=fun W h=>by rw[ht1];exact re1 X PB P B op a Af m cf fs _ _ _ _ W (hX.below h hX.lt) (hPB.below h hPB.lt) (hP.below h hP.lt) (hF.below h hB0) hm ha
 have C2:∀ W,Below w.heap.size w W→Calls Tryz.prog 245 #[.pointer (some ⟨PB,0,none⟩)] W fun e w'=>e=.returned (.bool t2)∧Below W.heap.size W w':=fun W h=>by rw[ht2];exact re2 PB P _ _ _ need peak W (hPB.below h hPB.lt) (hP.below h hP.lt)
 have C3:∀ W,Below w.heap.size w W→Calls Tryz.prog 246 #[.pointer (some ⟨PB,0,none⟩),.pointer (some ⟨AT,0,none⟩),.pointer (some ⟨X,0,none⟩),.pointer (some ⟨E,0,none⟩)] W fun e w'=>e=.returned (.bool t3)∧Below W.heap.size W w':=fun W h=>by rw[ht3];exact re3 PB AT X E P G _ _ _ _ _ _ _ mp mc pl at_ op a high W (hPB.below h hPB.lt) (hAT.below h hAT.lt) (hX.below h hX.lt) (hE.below h hE.lt) (hP.below h hP.lt) (hG.below h hG.lt) hmp b0 b1 b2 hw
 have C4:∀ W,Below w.heap.size w W→Calls Tryz.prog 248 #[.pointer (some ⟨E,0,none⟩)] W fun e w'=>e=.returned (.bool t4)∧Below W.heap.size W w':=fun W h=>by rw[ht4];exact re4 E _ _ _ steps W (hE.below h hE.lt)
 have HC1:=Aa C1;have HC2:=Aa C2;have HC3:=Aa C3;have HC4:=Aa C4;have HR:=Aa hR;have hRl:=hR.lt;clear C1 C2 C3 C4 ht1 ht2 ht3 ht4 hfin hX hPB hAT hP hE hF hG hm hmp ha b0 b1 b2 hw he1 he2 hR;go_enter Tryz.func161,Tryz.ntmps161;go_wp2_with fail
 go_loopw [7] (fun i wr=>∃ k:Nat,k≤4∧i=.int .i64 k∧(0<k→t1=true)∧(1<k→t2=true)∧(2<k→t3=true)∧(3<k→t4=true)∧Below w.heap.size w wr) (fun i _=>4-(intOf i).toNat)
 case atStart=>exact⟨0,by omega,rfl,by simp,by simp,by simp,by simp,aliasBr⟩
 case round =>
  obtain⟨k,hk,rfl,k1,k2,k3,k4,hB⟩:=hrel;have hbR:=HR.out.below hB hRl;have fr:=hbR.frozen;have hl:=hB.size
  match k,hk with
  | 0,_ =>
   have r0:wr.cell? ⟨R,0,none⟩=_:=hbR.cell 0;have r1:wr.cell? ⟨R,1,none⟩=_:=hbR.cell 1;simp at r0 r1;clear hbR fr;go_wp2_with fail
   refine(HC1.out _ (hB.alloc hl _)).mono ?_;rintro e w1 ⟨rfl,hb1⟩;have hbw:Below w.heap.size w w1:=(hB.alloc hl _).trans (hb1.mono (by simp;omega));have z0:w1.cell? ⟨wr.heap.size,1,none⟩=_:=hb1.cell (p:=⟨wr.heap.size,1,none⟩) (by simp);simp[go_sem] at z0;clear hb1;cases t1 with
   | false =>
    go_wp2;go_ret;exact⟨Dg (by have h:=HF.out;simp_all),hbw⟩
   | true =>
    go_wp2;go_roundw
    case rel=>exact⟨1,by omega,by go_num,by simp_all,by simp_all,by simp_all,by simp_all,hbw⟩
    case measure=>simp[intOf]
  | 1,_ =>
   have r0:wr.cell? ⟨R,2,none⟩=_:=hbR.cell 2;have r1:wr.cell? ⟨R,3,none⟩=_:=hbR.cell 3;simp at r0 r1;clear hbR fr;go_wp2_with fail
   refine(HC2.out _ (hB.alloc hl _)).mono ?_;rintro e w1 ⟨rfl,hb1⟩;have hbw:Below w.heap.size w w1:=(hB.alloc hl _).trans (hb1.mono (by simp;omega));have z0:w1.cell? ⟨wr.heap.size,1,none⟩=_:=hb1.cell (p:=⟨wr.heap.size,1,none⟩) (by simp);simp[go_sem] at z0;clear hb1;cases t2 with
   | false =>
    go_wp2;go_ret;exact⟨Dg (by have h:=HF.out;simp_all),hbw⟩
   | true =>
    go_wp2;go_roundw
    case rel=>exact⟨2,by omega,by go_num,by simp_all,by simp_all,by simp_all,by simp_all,hbw⟩
    case measure=>simp[intOf]
  | 2,_ =>
   have r0:wr.cell? ⟨R,4,none⟩=_:=hbR.cell 4;have r1:wr.cell? ⟨R,5,none⟩=_:=hbR.cell 5;simp at r0 r1;clear hbR fr;go_wp2_with fail
   refine(HC3.out _ (hB.alloc hl _)).mono ?_;rintro e w1 ⟨rfl,hb1⟩;have hbw:Below w.heap.size w w1:=(hB.alloc hl _).trans (hb1.mono (by simp;omega));have z0:w1.cell? ⟨wr.heap.size,1,none⟩=_:=hb1.cell (p:=⟨wr.heap.size,1,none⟩) (by simp);simp[go_sem] at z0;clear hb1;cases t3 with
   | false =>
    go_wp2;go_ret;exact⟨Dg (by have h:=HF.out;simp_all),hbw⟩
   | true =>
    go_wp2;go_roundw
    case rel=>exact⟨3,by omega,by go_num,by simp_all,by simp_all,by simp_all,by simp_all,hbw⟩
    case measure=>simp[intOf]
  | 3,_ =>
   have r0:wr.cell? ⟨R,6,none⟩=_:=hbR.cell 6;have r1:wr.cell? ⟨R,7,none⟩=_:=hbR.cell 7;simp at r0 r1;clear hbR fr;go_wp2_with fail
   refine(HC4.out _ (hB.alloc hl _)).mono ?_;rintro e w1 ⟨rfl,hb1⟩;have hbw:Below w.heap.size w w1:=(hB.alloc hl _).trans (hb1.mono (by simp;omega));have z0:w1.cell? ⟨wr.heap.size,1,none⟩=_:=hb1.cell (p:=⟨wr.heap.size,1,none⟩) (by simp);simp[go_sem] at z0;clear hb1;cases t4 with
   | false =>
    go_wp2;go_ret;exact⟨Dg (by have h:=HF.out;simp_all),hbw⟩
   | true =>
    go_wp2;go_roundw
    case rel=>exact⟨4,by omega,by go_num,by simp_all,by simp_all,by simp_all,by simp_all,hbw⟩
    case measure=>simp[intOf]
  | 4,_ =>
   clear hbR fr;go_wp2;go_ret;exact⟨Dg (by have h:=HF.out;simp_all),hB⟩
end Go.Proofs.YtnhebmgibiomnaaGreat
namespace Go.Proofs.YtnhebmgibiomnaaGreat
open Go.RowKit
structure PfAt (w:World) (P G B:Nat) (Ac Af:Option Addr) (n cc m cf:Nat) (fs:List Bd.Cost) (s:Bd.St):Prop where
 hP:Blk w P 200 #[.slice Ac n cc,.slice Af m cf,.slice (some ⟨G,0,none⟩) (n+1) (n+1),.int .i64 s.need,.int .i64 s.peak]
 hG:Blk w G 197 (Bv s.pl).toArray
 hF:Reads w B 4 Af m (Bk fs)
 hB:B≤w.heap.size
 hBP:B≤P
 hBG:B≤G
 hm:m=fs.length
 hl:s.pl.length=n+1
structure LookPost (w:World) (P G B:Nat) (Ac Af:Option Addr) (n cc m cf:Nat) (fs:List Bd.Cost) (r:Int×Bd.St) (e:Ending) (w':World):Prop where
 ret:e=.returned (.int .i64 r.1)
 pf:PfAt w' P G B Ac Af n cc m cf fs r.2
 fr:Fr (fun k=>k=P∨k=G) w w'
theorem PfAt.below {w w':World} {P G B:Nat} {Ac Af:Option Addr} {n cc m cf:Nat} {fs:List Bd.Cost} {s:Bd.St} (h:PfAt w P G B Ac Af n cc m cf fs s) (hb:Below w.heap.size w w'):PfAt w' P G B Ac Af n cc m cf fs s :=
 ⟨h.hP.below hb h.hP.lt,h.hG.below hb h.hG.lt,h.hF.below hb h.hB,Nat.le_trans h.hB hb.size,h.hBP,h.hBG,h.hm,h.hl⟩
theorem look_A (P G B:Nat) (Ac Af:Option Addr) (n cc m cf:Nat) (fs:List Bd.Cost) (s:Bd.St) (at_ op a:Int) (w:World) (h:PfAt w P G B Ac Af n cc m cf fs s) (ha0:0≤at_) (ha1:at_<n) (hn:n≤1000000000000000)
  (hal:Bd.always n fs.length at_ (op,a)≠0) :
  Calls Tryz.prog 88 #[.pointer (some ⟨P,0,none⟩),.int .i64 at_,.agg #[.int .i64 op,.int .i64 a]] w (LookPost w P G B Ac Af n cc m cf fs (Bd.look n fs s at_ (op,a))):=by
 have hlook:Bd.look n fs s at_ (op,a)=(Bd.always n m at_ (op,a),s):=by unfold Bd.look;rw[if_pos hal,h.hm]
 have hal':(Bd.always n m at_ (op,a) !=0)=true:=by rw[h.hm];simpa using hal
 rw[hlook];have hPl:=h.hP.lt;have H:=Aa h;have HP:=Aa h.hP;clear hlook hal h;go_enter Tryz.func88,Tryz.ntmps88;go_wp2_with fail
 refine(Hr _ at_ op a _).mono ?_;rintro e w' ⟨rfl,rfl⟩;go_wp2_with fail
 refine(Fs (w.heap.size+1+1+1+1+1) (w.heap.size+1+1+1+1) (w.heap.size+1+1) (w.heap.size+1+1+1) P op a at_ Ac Af n cc m cf _ _ _ _ (Blk.new_at _ _ _ (by simp)) ((Blk.new_at _ _ _ (by simp)).alloc _) ((((Blk.new_at _ _ _ (by simp)).alloc _).alloc _).alloc _) (((Blk.new_at _ _ _ (by simp)).alloc _).alloc _) (by exact(((((HP.out.alloc _).alloc _).alloc _).alloc _).alloc _).alloc _) ha0 (by omega) hn).mono ?_;rintro e w' ⟨rfl,hb⟩;have hbw:Below w.heap.size w w':=Below.trans (by repeat (first|exact aliasBr|assumption|(refine Below.setCell ?_ (by first|omega|(simp;done)|(simp;omega)) _)|(refine Below.drew ?_)|(refine below_drewN ?_ _)|(refine Below.alloc ?_ (by first|omega|(simp;done)|(simp;omega)) _))) (hb.mono (by first|omega|(simp;done)|(simp;omega)|(simp only[World.size_alloc,World.size_drew];omega)));clear hb;generalize Bd.always n m at_ (op,a)=r at *;go_wp2;go_ret;exact⟨rfl,H.out.below hbw,Fr.of_below hbw (fun k hk _=>hk)⟩
theorem look_B (P G B:Nat) (Ac Af:Option Addr) (n cc m cf:Nat) (fs:List Bd.Cost) (s:Bd.St) (at_ op a:Int) (w:World) (h:PfAt w P G B Ac Af n cc m cf fs s) (ha0:0≤at_) (ha1:at_<n) (hn:n≤1000000000000000)
  (hal:Bd.always n fs.length at_ (op,a)=0) (hk:(Bd.pat s.pl at_).known=false) :
  Calls Tryz.prog 88 #[.pointer (some ⟨P,0,none⟩),.int .i64 at_,.agg #[.int .i64 op,.int .i64 a]] w (LookPost w P G B Ac Af n cc m cf fs (Bd.look n fs s at_ (op,a))):=by
 have hlook:Bd.look n fs s at_ (op,a)=(0,s):=by unfold Bd.look;rw[if_neg (by rw[hal];simp),if_pos hk]
 have HAL:=Aa (show Bd.always n m at_ (op,a)=0 by rw[h.hm];exact hal);rw[hlook];have hPl:=h.hP.lt;have hGl:=h.hG.lt;have H:=Aa h;have HP:=Aa h.hP;obtain⟨an,rfl⟩:=Int.eq_ofNat_of_zero_le ha0;obtain⟨q,hq⟩:∃ q,s.pl[an]?=some q:=⟨_,List.getElem?_eq_getElem (by have:=h.hl;omega)⟩;have hpat:Bd.pat s.pl (an:Int)=q:=by unfold Bd.pat;rw[List.getD_eq_getElem?_getD];simp[hq]
 rw[hpat] at hk;obtain⟨g0,g1,g2⟩:=Es s.pl an q hq;clear hlook hal h hq hpat;obtain⟨qk,qh,qs⟩:=q;simp only at hk g0 g1 g2;subst hk;go_enter Tryz.func88,Tryz.ntmps88;go_wp2_with fail
 refine(Hr _ an op a _).mono ?_;rintro e w' ⟨rfl,rfl⟩;go_wp2_with fail
 refine(Fs (w.heap.size+1+1+1+1+1) (w.heap.size+1+1+1+1) (w.heap.size+1+1) (w.heap.size+1+1+1) P op a an Ac Af n cc m cf _ _ _ _ (Blk.new_at _ _ _ (by simp)) ((Blk.new_at _ _ _ (by simp)).alloc _) ((((Blk.new_at _ _ _ (by simp)).alloc _).alloc _).alloc _) (((Blk.new_at _ _ _ (by simp)).alloc _).alloc _) (by exact(((((HP.out.alloc _).alloc _).alloc _).alloc _).alloc _).alloc _) ha0 (by omega) hn).mono ?_;rintro e w1 ⟨rfl,hb⟩;have hbw:Below w.heap.size w w1:=Below.trans (by repeat (first|exact aliasBr|assumption|(refine Below.setCell ?_ (by first|omega|(simp;done)|(simp;omega)) _)|(refine Below.drew ?_)|(refine below_drewN ?_ _)|(refine Below.alloc ?_ (by first|omega|(simp;done)|(simp;omega)) _))) (hb.mono (by first|omega|(simp;done)|(simp;omega)|(simp only[World.size_alloc,World.size_drew];omega)));have v0:Blk w1 w.heap.size 193 #[.pointer (some ⟨P,0,none⟩)]:=Blk.below ((((((Blk.new_at _ _ _ (by simp)).alloc _).alloc _).alloc _).alloc _).alloc _) hb (by first|omega|(simp;done)|(simp;omega)|(simp only[World.size_alloc,World.size_drew];omega));have v1:Blk w1 (w.heap.size+1) 96 #[.int .i64 op,.int .i64 a]:=Blk.below (((((Blk.new_at _ _ _ (by simp)).alloc _).alloc _).alloc _).alloc _) hb (by first|omega|(simp;done)|(simp;omega)|(simp only[World.size_alloc,World.size_drew];omega));have hz1:w.heap.size+6≤w1.heap.size:=by have:=hb.size;simp at this;omega
 rw[HAL.out];clear hb;have u0:w1.cell? ⟨w.heap.size,0,none⟩=some (.pointer (some ⟨P,0,none⟩)):=by rw[v0.cell];rfl
 have u1:w1.cell? ⟨P,2,none⟩=some (.slice (some ⟨G,0,none⟩) (n+1) (n+1)):=by rw[(HP.out.below hbw hPl).cell];rfl
 have d0:w1.cell? ⟨G,an*3,none⟩=some (.bool false):=by rw[(H.out.hG.below hbw hGl).cell];simpa using g0
 have d1:w1.cell? ⟨G,an*3+1,none⟩=some (.int .i64 qh):=by rw[(H.out.hG.below hbw hGl).cell];simpa using g1
 have d2:w1.cell? ⟨G,an*3+2,none⟩=some (.int .i64 qs):=by rw[(H.out.hG.below hbw hGl).cell];simpa using g2
 have hlt:an<n+1:=by omega
 clear g0 g1 g2 v0 v1;go_wp2;go_ret;have hbw2:=hbw.alloc (by omega) (.cells #[.bool false,.int .i64 qh,.int .i64 qs] 197);exact⟨rfl,H.out.below hbw2,Fr.of_below hbw2 (fun k hk _=>hk)⟩
theorem Tw (P G B:Nat) (Ac Af:Option Addr) (n cc m cf:Nat) (fs:List Bd.Cost) (s:Bd.St) (at_ op a:Int) (w:World) (h:PfAt w P G B Ac Af n cc m cf fs s) (q:Bd.Place) (hq:Bd.okP q) (hfs:fs.all Bd.mayBe=true) (hal:Bd.always n fs.length at_ (op,a)=0) :
  Calls Tryz.prog 163 #[.pointer (some ⟨P,0,none⟩),.agg #[.bool q.known,.int .i64 q.high,.int .i64 q.steps],.agg #[.int .i64 op,.int .i64 a]] w fun e w'=>e=.returned (.agg #[.int .i64 (Bd.effect fs q (op,a)).need,.int .i64 (Bd.effect fs q (op,a)).peak,.int .i64 (Bd.effect fs q (op,a)).high,.int .i64 (Bd.effect fs q (op,a)).steps])∧Below w.heap.size w w':=by
 obtain⟨q1,q2,q3,q4⟩:=hq;cases hc:Bd.calls op with
 | false =>
  have e:Bd.effect fs q (op,a)=⟨Bd.takes op-q.high,q.high-Bd.takes op+Bd.leaves op,q.high-Bd.takes op+Bd.leaves op,q.steps+1⟩:=by
   unfold Bd.effect;simp only;rw[if_neg (by rw[hc];simp)]
  rw[e];exact effect_plain _ _ _ _ _ _ _ q1 q2 q3 q4 hc
 | true =>
  have hab:0≤a∧a<fs.length:=by
   unfold Bd.always at hal;simp only at hal;split at hal
   ·simp at hal
   ·split at hal
    ·simp at hal
    ·split at hal
     ·simp at hal
     ·rename_i h3;simp[hc] at h3;exact h3
  exact effect_call P B 0 _ _ _ _ Af m cf fs q.known q.high q.steps op a w q1 q2 q3 q4 hc h.hP h.hF h.hB h.hm hab.1 (by rw[h.hm];exact hab.2) hfs rfl
end Go.Proofs.YtnhebmgibiomnaaGreat

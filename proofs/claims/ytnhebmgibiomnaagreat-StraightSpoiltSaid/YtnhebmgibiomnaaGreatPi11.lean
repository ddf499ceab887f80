import Derived.Deep.LoopGhost
import Derived.Laws.EntriesVeiled
import Derived.Maps.Keyed
import Derived.StillTailTactics
import Derived.Test.YtnhebmgibiomnaaGreatPi10
set_option linter.unusedVariables false
set_option linter.unusedSimpArgs false
set_option maxRecDepth 100000
set_option maxHeartbeats 8000000
namespace Go.Proofs.YtnhebmgibiomnaaGreat
section
open Go.RowKit Mc Go.ChangeMaps
theorem Lh:∀(es:List MapEntry)(x:Int)(i:Nat),(∀e∈es,∃b,e.key=Aj b∧x≠b)→Instr.findNow (.int .i64) (Aj x) es i=some none
 | [],_,_,_=>rfl
 |e::es,x,i,h=>by
  obtain⟨b,u,y⟩:=h e oP;unfold Instr.findNow;rw[u];have:Instr.sameNow (.int .i64) (Aj x) (Aj b)=some false:=by simp[Instr.sameNow,y]
  rw[this];exact Lh es x (i+1) fun z v=>h z (oT _ v)
theorem Lg:∀(es:List MapEntry)(x:Int)(i j:Nat)(e:MapEntry),es[j]?=some e→e.key=Aj x→(∀y z,y<j→es[y]?=some z→∃b,z.key=Aj b∧x≠b)→Instr.findNow (.int .i64) (Aj x) es i=some (some (i+j,e.val))
 | [],_,_,_,_,h,_,_=>by simp at h
 |e0::es,x,i,0,e,h,hk,_=>by
  simp only[Ay,Bw]at h;subst h;unfold Instr.findNow;rw[hk];have:Instr.sameNow (.int .i64) (Aj x) (Aj x)=some true:=by simp[Instr.sameNow]
  rw[this];rfl
 |e0::es,x,i,j+1,e,h,hk,ho=>by
  obtain⟨b,v,u⟩:=ho 0 e0 (by omega) rfl;simp only[Ba]at h;unfold Instr.findNow;rw[v];have:Instr.sameNow (.int .i64) (Aj x) (Aj b)=some false:=by simp[Instr.sameNow,u]
  rw[this];have:=Lg es x (i+1) j e h hk fun y z p k=>ho (y+1) z (by omega) (by simpa using k)
  rw[show i+(j+1)=i+1+j by omega];exact this
theorem Lj {P:Program}{k:TypeId} (y:P.underlying k=some (.int .i64)) (w:World) (em:Bool) (x:Int):(Instr.checkKey em 10000 k (Aj x)).run P w=.ok () w:=by
 unfold Instr.checkKey;simp[run_underlying y]
theorem Jg {P:Program}{w:World}{t k e:TypeId} (q:P.underlying t=some (.map k e)) (y:P.underlying k=some (.int .i64)) {r:Nat} {es:Array MapEntry} {clock:Nat} (z:w.heap[r]?=some (.map es clock)) {x:Int} {v:Value}
  (u:∀e∈es.toList,∃b,e.key=Aj b∧x≠b):(Instr.mapUpdate t (.map (some r)) (Aj x) v).run P w=.ok () (setBlock w r (.map (es.push ⟨Aj x,v,clock⟩) (clock+1))):=by
 have p:(Instr.findKey k (Aj x) es.toList).run P w=.ok none w:=by
  unfold Instr.findKey;simp[run_underlying y,Lh _ _ _ u]
 simp[Instr.mapUpdate,run_underlying q,MapKept.run_getObj_map z,Lj y,p,MapKept.run_setObj_map _ z,Result.andThen,setBlock]
theorem Jy {P:Program}{w:World}{t k e:TypeId} (v:P.underlying t=some (.map k e)) (z:P.underlying k=some (.int .i64)) {r:Nat} {es:Array MapEntry} {clock:Nat} (p:w.heap[r]?=some (.map es clock)) {x:Int} {j:Nat} {en:MapEntry}
  (c:es.toList[j]?=some en) (q:en.key=Aj x) (a:∀y u,y<j→es.toList[y]?=some u→∃b,u.key=Aj b∧x≠b):(Instr.lookup t (.map (some r)) (Aj x) false).run P w=.ok en.val w:=by
 have s:(Instr.findKey k (Aj x) es.toList).run P w=.ok (some (0+j,en.val)) w:=by
  unfold Instr.findKey;simp[run_underlying z,Lg _ _ 0 _ _ c q a]
 simp[Instr.lookup,run_underlying v,MapKept.run_getObj_map p,Lj z,s,Result.andThen]
theorem Zen (f:Fn)(w:World):Calls Tryz.prog 172 #[.func f #[] #[]] w fun e w'=>e=.returned (.func (.func 250) #[] #[.pointer (some ⟨w.heap.size,0,none⟩)])∧w.alloc (.cells #[.func f #[] #[]] 74)=w':=by
 go_enter Tryz.func172,Tryz.ntmps172;go_wp2;go_ret;exact⟨rfl,rfl⟩
theorem Zfr (f:Fn)(w:World):Calls Tryz.prog 179 #[.func f #[] #[]] w fun e w'=>e=.returned (.func (.func 251) #[] #[.pointer (some ⟨w.heap.size,0,none⟩)])∧w.alloc (.cells #[.func f #[] #[]] 117)=w':=by
 go_enter Tryz.func179,Tryz.ntmps179;go_wp2;go_ret;exact⟨rfl,rfl⟩
def DI (w0:World)(n:Nat)(W:World):Prop :=
 ∃bs,W.heap[w0.heap.size]?=some (.map (Ha bs n).toArray n)∧(∀i,1≤i→i≤n→DeedBox W (fun k=>w0.heap.size<k∧k<W.heap.size) bs i)∧Below w0.heap.size w0 W
theorem Ue (bs:Nat→Nat)(n:Nat):Ha bs (n+1)=Ha bs n++[⟨Aj ((n+1:Nat):Int),Nr bs (n+1),n⟩]:=by
 unfold Ha;rw[od,oq];rfl
theorem Rr {bs bs':Nat→Nat}{n:Nat}(h:∀i,i≤n→bs i=bs' i):Ha bs n=Ha bs' n:=by
 unfold Ha;refine pE fun i hi=>?_
 have:=List.mem_range.1 hi;unfold Nr;rw[h (i+1) (by omega)]
theorem Uf {bs:Nat→Nat}{n:Nat}{x:Int} (z:(n:Int)<x):∀e∈(Ha bs n),∃b,e.key=Aj b∧x≠b:=by
 intro e y;unfold Ha at y;obtain⟨i,hi,rfl⟩:=List.mem_map.1 y;have:=List.mem_range.1 hi;exact⟨_,rfl,by omega⟩
theorem DeedBox.aQ {W W':World}{O O':Nat→Prop}{bs bs':Nat→Nat}{i:Nat}(h:DeedBox W O bs i)(x:bs i=bs' i)(y:∀g t cs,aH W g t cs→aH W' g t cs)(z:∀k,O k→O' k):DeedBox W' O' bs' i:=by
 unfold DeedBox at h ⊢;split at h
 ·exact⟨z _ (x ▸ h.1),y _ _ _ (x ▸ h.2)⟩
 ·trivial
theorem Hc {W:World}{r:Nat}{es u:Array MapEntry}{c y:Nat} (z:W.heap[r]?=some (.map es c)) {g:Nat} {t:TypeId} {cs:Array Value} (h:aH W g t cs):aH (setBlock W r (.map u y)) g t cs:=by
 unfold aH at h ⊢;have x:r≠g:=by rintro rfl;rw[z]at h;cases h
 simp only[setBlock];rw[Ax x];exact h
theorem DI.add {w0 W:World}{n:Nat}(h:DI w0 n W)(v:Value)(b:Nat) (d:v=Nr (fun _=>b) (n+1)) (c:DeedBox W (fun k=>w0.heap.size<k∧k<W.heap.size) (fun _=>b) (n+1)) :
  ∃es,W.heap[w0.heap.size]?=some (.map es n)∧(∀e∈es.toList,∃b,e.key=Aj b∧((n+1:Nat):Int)≠b)∧DI w0 (n+1) (setBlock W w0.heap.size (.map (es.push ⟨Aj ((n+1:Nat):Int),v,n⟩) (n+1))):=by
 obtain⟨bs,y,a,x⟩:=h;have s:w0.heap.size<W.heap.size:=(bO.1 y).1;refine⟨_,y,Uf (by omega),fun i=>if i=n+1 then b else bs i,?_,?_,?_⟩
 ·simp only[setBlock];rw[Eb s,Ue,Rr (bs:=fun i=>if i=n+1 then b else bs i) (bs':=bs) (fun i hi=>by rw[if_neg (by omega)])];subst d;unfold Nr;simp
 ·intro i r f;have p:∀k,(w0.heap.size<k∧k<W.heap.size)→(w0.heap.size<k∧k<(setBlock W w0.heap.size (.map ((Ha bs n).toArray.push ⟨Aj ((n+1:Nat):Int),v,n⟩) (n+1))).heap.size):=fun k u=>by simpa [setBlock]using u
  by_cases q:i=n+1
  ·subst q;exact c.aQ (by simp) (fun g t cs z=>Hc y z) p
  ·exact(a i r (by omega)).aQ (by rw[if_neg q]) (fun g t cs z=>Hc y z) p
 ·exact⟨x.os,x.tape,x.output,by simpa [setBlock]using x.size,fun k u=>by
   simp only[setBlock];rw[Ax (by omega)];exact x.block k u⟩
theorem DI.alloc {w0 W:World}{n:Nat}(h:DI w0 n W)(o:Obj):DI w0 n (W.alloc o):=by
 obtain⟨bs,y,u,p⟩:=h;have z:w0.heap.size<W.heap.size:=(bO.1 y).1;exact⟨bs,(pq W o _ z).trans y,fun i a b=>(u i a b).aQ rfl (fun g t cs v=>v.alloc o) (fun k x=>⟨x.1,by have:=x.2;simp;omega⟩),p.alloc (by omega) o⟩
theorem DI.lt {w0 W:World}{n:Nat}(h:DI w0 n W):w0.heap.size<W.heap.size:=by
 obtain⟨bs,x,_⟩:=h;exact(bO.1 x).1
theorem Lx {ops:Array Oper}{rest:List Oper}{o:Oper}{a:Act}{Q:Exit→Act→World→Prop}(w0 W:World)(n:Nat)(z:o.guard=none)(m k x:Operand)(c:o.op=.insert 207 m k x)(p:o.dst=none)
  (g:a.eval m=.map (some w0.heap.size)) (d:a.eval k=Aj ((n+1:Nat):Int)) (v:Value) (f:a.eval x=v) (b:Nat) (y:DI w0 n W) (i:v=Nr (fun _=>b) (n+1)) (q:DeedBox W (fun k=>w0.heap.size<k∧k<W.heap.size) (fun _=>b) (n+1))
  (h:∀W',DI w0 (n+1) W'→wpList Tryz.prog ops Q rest a W'):wpList Tryz.prog ops Q (o::rest) a W:=by
 refine wpList_plain z fun l j=>?_
 obtain⟨es,s,u,e⟩:=y.add v b i q;have r:=h _ e;generalize ((n+1:Nat):Int)=X at *;unfold Oper.wp;simp only[execOp,c,g,d,f];simp[Jg (P:=Tryz.prog) (w:=W) Tryz.underlying207 Tryz.underlying3 s (v:=v) u,Result.andThen];unfold Oper.upon;exact j _ _ (by rw[p];exact r)
theorem Mh {P:Program}(w:World)(t:TypeId):Sem.run P (Instr.makeMap t none) w=.ok (.map (some w.heap.size)) (w.alloc (.map #[] 0)):=by
 unfold Instr.makeMap;simp[newObj,Sem.run]
theorem DI.start (w:World):DI w 0 (w.alloc (.map #[] 0)) :=
 ⟨fun _=>0,heap_alloc_new w _,fun i y x=>by omega,aI.alloc Aw _⟩
theorem DI.box {w0 W:World}{n:Nat}(h:DI w0 n W)(f:Fn)(t:TypeId):DI w0 n (W.alloc (.cells #[.func f #[] #[]] t))∧(w0.heap.size<W.heap.size∧W.heap.size<(W.alloc (.cells #[.func f #[] #[]] t)).heap.size)∧aH (W.alloc (.cells #[.func f #[] #[]] t)) W.heap.size t #[.func f #[] #[]] :=
 ⟨h.alloc _,⟨h.lt,by simp⟩,qG _ _ _⟩
def DB (w0:World)(n b:Nat)(t:TypeId)(f:Fn)(W:World):Prop:=DI w0 n W∧(w0.heap.size<b∧b<W.heap.size)∧aH W b t #[.func f #[] #[]]
theorem nT {w0 W:World}{n:Nat}(h:DI w0 n W)(f:Fn):Calls Tryz.prog 172 #[.func f #[] #[]] W fun e w'=>e=.returned (.func (.func 250) #[] #[.pointer (some ⟨W.heap.size,0,none⟩)])∧DB w0 n W.heap.size 74 f w' :=
 (Zen f W).mono fun _ _ x=>⟨x.1,by rw[←x.2];exact h.box f _⟩
theorem mq {w0 W:World}{n:Nat}(h:DI w0 n W)(f:Fn):Calls Tryz.prog 179 #[.func f #[] #[]] W fun e w'=>e=.returned (.func (.func 251) #[] #[.pointer (some ⟨W.heap.size,0,none⟩)])∧DB w0 n W.heap.size 117 f w' :=
 (Zfr f W).mono fun _ _ x=>⟨x.1,by rw[←x.2];exact h.box f _⟩
attribute [local go_sem] Mh
theorem Zda (w:World):Calls Tryz.prog 99 #[] w fun e w'=>e=.returned (.map (some w.heap.size))∧DI w 39 w':=by
 go_enter Tryz.func99,Tryz.ntmps99;have x:=Aq (DI.start w);go_wp2_with (first
  | (refine Lx _ _ _ rfl _ _ _ rfl rfl rfl rfl _ rfl 0 x.o rfl trivial ?_;intro W z;clear x;have x:=Aq z;clear z)
  | (refine Lx _ _ _ rfl _ _ _ rfl rfl rfl rfl _ rfl _ x.o.1 rfl x.o.2 ?_;intro W z;clear x;have x:=Aq z;clear z)
  | (go_at_call 172;refine(nT x.o _).mono ?_;rintro e u⟨rfl,y⟩;clear x;have x:=Aq y;clear y)
  | (go_at_call 179;refine(mq x.o _).mono ?_;rintro e u⟨rfl,y⟩;clear x;have x:=Aq y;clear y))
 go_ret;exact⟨rfl,x.o⟩
end
section
open Go.RowKit Mc
def Yu (op:Int):Bool:=decide (1≤op∧op≤39)
theorem Zal {k y:IntKind}{a b a' x:Int}{c d:Bool}(h:a=b)(z:a'=x)(u:c=d):Ending.returned (.tuple #[.int k a,.int y a',.bool c])=.returned (.tuple #[.int k b,.int y x,.bool d]):=by rw[h,z,u]
theorem Dc (op:Int)(w:World) :
  Calls Tryz.prog 237 #[Aj op] w fun e w'=>e=.returned (.tuple #[Aj (aO op:Nat),Aj (aV op:Nat),.bool (Yu op)])∧w=w':=by
 go_enter Tryz.func237,Tryz.ntmps237;go_wp2
 all_goals (go_ret3;go_light;refine⟨Zal ?_ ?_ ?_,rfl⟩ <;> first|(simp_all [aO,aV,Yu];done)|(simp_all [Yu];omega))
theorem Gh (op:Int):aO op≤2:=by unfold aO;(repeat' split) <;> omega
theorem Fo (op:Int):aV op≤2:=by unfold aV;(repeat' split) <;> omega
theorem Zei {s:St}{op a x:Int} (h:¬ (1≤op∧op≤39)):Fv s op a x=50:=by unfold Fv;rw[if_pos (by omega)]
theorem Zeh {s:St}{op a x:Int}(h:1≤op∧op≤39)(y:s.stack.length<aO op∨32+aO op<s.stack.length+aV op):Fv s op a x=51:=by unfold Fv;rw[if_neg (by omega),if_pos y]
theorem Zek {s:St}{op a y:Int}(h:1≤op∧op≤39) (u:¬ (s.stack.length<aO op∨32+aO op<s.stack.length+aV op)) (z:op=35∨op=36):Fv s op a y=if a<0∨y<a then 52 else 0:=by
 unfold Fv;rw[if_neg (by omega),if_neg u];by_cases x:a<0∨y<a
 ·rw[if_pos ⟨z,x⟩,if_pos x]
 ·rw[if_neg (fun e=>x e.2),if_neg (by omega),if_neg x]
theorem Zem {s:St}{op a y:Int}(h:1≤op∧op≤39) (u:¬ (s.stack.length<aO op∨32+aO op<s.stack.length+aV op)) (z:op=37∨op=38):Fv s op a y=if a<0∨(s.funcs.length:Int)≤a∨20<s.aD.length then 54 else 0:=by
 unfold Fv;rw[if_neg (by omega),if_neg u,if_neg (by omega)];by_cases x:a<0∨(s.funcs.length:Int)≤a∨20<s.aD.length
 ·rw[if_pos ⟨z,x⟩,if_pos x]
 ·rw[if_neg (fun e=>x e.2),if_neg x]
theorem Zej {s:St}{op a x:Int}(h:1≤op∧op≤39) (z:¬ (s.stack.length<aO op∨32+aO op<s.stack.length+aV op)) (y:¬ (op=35∨op=36)) (u:¬ (op=37∨op=38)):Fv s op a x=0:=by
 unfold Fv;rw[if_neg (by omega),if_neg z,if_neg (fun e=>y e.1),if_neg (fun e=>u e.1)]
theorem Zib (w:World)(mb:Nat)(s:St)(op a r:Int)(v p q:Option Addr)(cs k cu:Nat)(f:mb<w.heap.size) (_c40:w.cell? ⟨mb,40,none⟩=some (.slice v s.stack.length cs)) (_c1:w.cell? ⟨mb,1,none⟩=some (.slice p s.aD.length k)) (_c0:w.cell? ⟨mb,0,none⟩=some (.slice q s.funcs.length cu)) (_hsl:s.stack.length≤32) (_hfl:s.aD.length≤21) (_hul:s.funcs.length≤1000000) (y:¬ (1≤op∧op≤39)) :
  Calls Tryz.prog 158 #[.pointer (some ⟨mb,0,none⟩),.agg #[Aj op,Aj a],Aj r] w fun e w'=>e=.returned (Aj 50)∧Below w.heap.size w w':=by
 have g:mb<w.heap.size+1:=by omega
 have d:=Gh op;have i:=Fo op;generalize x:aO op=T at *;generalize z:aV op=V at *;have c:=Aq x;have b:=Aq z;clear x z;have u:=Aq (show Yu op=false from decide_eq_false y);clear y;go_enter Tryz.func158,Tryz.ntmps158;go_wp2_with fail
 refine(Dc _ _).mono ?_;rintro e w1⟨rfl,rfl⟩;rw[c.o,b.o,u.o];go_wp2;go_ret;exact⟨rfl,aI.alloc Aw _⟩
theorem Zia (w:World)(mb:Nat)(s:St)(op a d:Int)(q b c:Option Addr)(cs r cu:Nat)(i:mb<w.heap.size) (dX:w.cell? ⟨mb,40,none⟩=some (.slice q s.stack.length cs)) (_c1:w.cell? ⟨mb,1,none⟩=some (.slice b s.aD.length r)) (_c0:w.cell? ⟨mb,0,none⟩=some (.slice c s.funcs.length cu)) (l:s.stack.length≤32) (_hfl:s.aD.length≤21) (_hul:s.funcs.length≤1000000) (u:1≤op∧op≤39) (z:s.stack.length<aO op∨32+aO op<s.stack.length+aV op) :
  Calls Tryz.prog 158 #[.pointer (some ⟨mb,0,none⟩),.agg #[Aj op,Aj a],Aj d] w fun e w'=>e=.returned (Aj 51)∧Below w.heap.size w w':=by
 have j:mb<w.heap.size+1:=by omega
 have g:=Gh op;have m:=Fo op;generalize y:aO op=T at *;generalize k:aV op=V at *;have p:=Aq y;have v:=Aq k;clear y k;have x:=Aq (show Yu op=true from decide_eq_true u);clear u;by_cases f:s.stack.length<T
 ·clear z;go_enter Tryz.func158,Tryz.ntmps158;go_wp2_with fail
  refine(Dc _ _).mono ?_;rintro e w1⟨rfl,rfl⟩;rw[p.o,v.o,x.o];go_wp2;go_ret;exact⟨rfl,aI.alloc Aw _⟩
 ·have n:32+T<s.stack.length+V:=by omega
  clear z;go_enter Tryz.func158,Tryz.ntmps158;go_wp2_with fail
  refine(Dc _ _).mono ?_;rintro e w1⟨rfl,rfl⟩;rw[p.o,v.o,x.o];go_wp2;go_ret;exact⟨rfl,aI.alloc Aw _⟩
theorem nj (w:World)(mb:Nat)(s:St)(op a c:Int)(k q b:Option Addr)(cs p cu:Nat)(l:mb<w.heap.size) (dX:w.cell? ⟨mb,40,none⟩=some (.slice k s.stack.length cs)) (_c1:w.cell? ⟨mb,1,none⟩=some (.slice q s.aD.length p)) (_c0:w.cell? ⟨mb,0,none⟩=some (.slice b s.funcs.length cu)) (_hsl:s.stack.length≤32) (_hfl:s.aD.length≤21) (_hul:s.funcs.length≤1000000) (y:1≤op∧op≤39) (H:¬ s.stack.length<aO op) (n:¬ 32+aO op<s.stack.length+aV op) (u:¬ (op=35∨op=36)) (r:¬ (op=37∨op=38)) :
  Calls Tryz.prog 158 #[.pointer (some ⟨mb,0,none⟩),.agg #[Aj op,Aj a],Aj c] w fun e w'=>e=.returned (Aj 0)∧Below w.heap.size w w':=by
 have m:mb<w.heap.size+1:=by omega
 have i:=Gh op;have K:=Fo op;generalize x:aO op=T at *;generalize z:aV op=V at *;have f:=Aq x;have d:=Aq z;clear x z;have v:=Aq (show Yu op=true from decide_eq_true y);have g:(op==35)=false:=by simp;omega
 have X:(op==36)=false:=by simp;omega
 have j:(op==37)=false:=by simp;omega
 have Y:(op==38)=false:=by simp;omega
 clear y u r;go_enter Tryz.func158,Tryz.ntmps158;go_wp2_with fail
 refine(Dc _ _).mono ?_;rintro e w1⟨rfl,rfl⟩;rw[f.o,d.o,v.o];go_wp2;go_ret;exact⟨rfl,aI.alloc Aw _⟩
theorem mx (w:World)(mb:Nat)(s:St)(op a x:Int)(r c d:Option Addr)(cs b cu:Nat)(g:mb<w.heap.size) (dX:w.cell? ⟨mb,40,none⟩=some (.slice r s.stack.length cs)) (_c1:w.cell? ⟨mb,1,none⟩=some (.slice c s.aD.length b)) (_c0:w.cell? ⟨mb,0,none⟩=some (.slice d s.funcs.length cu)) (_hsl:s.stack.length≤32) (_hfl:s.aD.length≤21) (_hul:s.funcs.length≤1000000) (y:op=35∨op=36) (n:¬ s.stack.length<aO op) (j:¬ 32+aO op<s.stack.length+aV op) (v:a<0∨x<a) :
  Calls Tryz.prog 158 #[.pointer (some ⟨mb,0,none⟩),.agg #[Aj op,Aj a],Aj x] w fun e w'=>e=.returned (Aj 52)∧Below w.heap.size w w':=by
 have i:mb<w.heap.size+1:=by omega
 have f:=Gh op;have H:=Fo op;generalize u:aO op=T at *;generalize p:aV op=V at *;have q:=Aq u;have k:=Aq p;clear u p;have z:Hid (Yu op=true):=Aq (by rcases y with rfl|rfl <;> rfl);rcases y with rfl|rfl
 all_goals
  by_cases l:a<0
  ·clear v;go_enter Tryz.func158,Tryz.ntmps158;go_wp2_with fail
   refine(Dc _ _).mono ?_;rintro e w1⟨rfl,rfl⟩;rw[q.o,k.o,z.o];go_wp2;go_ret;exact⟨rfl,aI.alloc Aw _⟩
  ·have m:x<a:=by omega
   clear v;go_enter Tryz.func158,Tryz.ntmps158;go_wp2_with fail
   refine(Dc _ _).mono ?_;rintro e w1⟨rfl,rfl⟩;rw[q.o,k.o,z.o];go_wp2;go_ret;exact⟨rfl,aI.alloc Aw _⟩
theorem Zhv (w:World)(mb:Nat)(s:St)(op a z:Int)(k q r:Option Addr)(cs p cu:Nat)(f:mb<w.heap.size) (dX:w.cell? ⟨mb,40,none⟩=some (.slice k s.stack.length cs)) (_c1:w.cell? ⟨mb,1,none⟩=some (.slice q s.aD.length p)) (_c0:w.cell? ⟨mb,0,none⟩=some (.slice r s.funcs.length cu)) (i:s.stack.length≤32) (_hfl:s.aD.length≤21) (_hul:s.funcs.length≤1000000) (x:op=35∨op=36) (n:¬ s.stack.length<aO op) (j:¬ 32+aO op<s.stack.length+aV op) (l:0≤a) (m:a≤z) :
  Calls Tryz.prog 158 #[.pointer (some ⟨mb,0,none⟩),.agg #[Aj op,Aj a],Aj z] w fun e w'=>e=.returned (Aj 0)∧Below w.heap.size w w':=by
 have g:mb<w.heap.size+1:=by omega
 have d:=Gh op;have H:=Fo op;generalize y:aO op=T at *;generalize u:aV op=V at *;have c:=Aq y;have b:=Aq u;clear y u;have v:Hid (Yu op=true):=Aq (by rcases x with rfl|rfl <;> rfl);rcases x with rfl|rfl
 all_goals
  go_enter Tryz.func158,Tryz.ntmps158;go_wp2_with fail
  refine(Dc _ _).mono ?_;rintro e w1⟨rfl,rfl⟩;rw[c.o,b.o,v.o];go_wp2;go_ret;exact⟨rfl,aI.alloc Aw _⟩
theorem Zhy (w:World)(mb:Nat)(s:St)(op a c:Int)(p r b:Option Addr)(cs q cu:Nat)(f:mb<w.heap.size) (dX:w.cell? ⟨mb,40,none⟩=some (.slice p s.stack.length cs)) (_c1:w.cell? ⟨mb,1,none⟩=some (.slice r s.aD.length q)) (_c0:w.cell? ⟨mb,0,none⟩=some (.slice b s.funcs.length cu)) (i:s.stack.length≤32) (_hfl:s.aD.length≤21) (_hul:s.funcs.length≤1000000) (z:op=37∨op=38) (m:¬ s.stack.length<aO op) (j:¬ 32+aO op<s.stack.length+aV op) (l:a<0) :
  Calls Tryz.prog 158 #[.pointer (some ⟨mb,0,none⟩),.agg #[Aj op,Aj a],Aj c] w fun e w'=>e=.returned (Aj 54)∧Below w.heap.size w w':=by
 have g:mb<w.heap.size+1:=by omega
 have d:=Gh op;have n:=Fo op;generalize y:aO op=T at *;generalize v:aV op=V at *;have k:=Aq y;have u:=Aq v;clear y v;have x:Hid (Yu op=true):=Aq (by rcases z with rfl|rfl <;> rfl);rcases z with rfl|rfl
 ·go_enter Tryz.func158,Tryz.ntmps158;go_wp2_with fail
  refine(Dc _ _).mono ?_;rintro e w1⟨rfl,rfl⟩;rw[k.o,u.o,x.o];go_wp2_with fail
  go_quiet (fail);go_wp2;go_ret;exact⟨rfl,below_drewN (aI.alloc Aw _) _⟩
 ·go_enter Tryz.func158,Tryz.ntmps158;go_wp2_with fail
  refine(Dc _ _).mono ?_;rintro e w1⟨rfl,rfl⟩;rw[k.o,u.o,x.o];go_wp2_with fail
  go_quiet (fail);go_wp2;go_ret;exact⟨rfl,below_drewN (aI.alloc Aw _) _⟩
theorem Zhx (w:World)(mb:Nat)(s:St)(op a c:Int)(p r b:Option Addr)(cs q cu:Nat)(f:mb<w.heap.size) (dX:w.cell? ⟨mb,40,none⟩=some (.slice p s.stack.length cs)) (_c1:w.cell? ⟨mb,1,none⟩=some (.slice r s.aD.length q)) (c0:w.cell? ⟨mb,0,none⟩=some (.slice b s.funcs.length cu)) (i:s.stack.length≤32) (_hfl:s.aD.length≤21) (_hul:s.funcs.length≤1000000) (z:op=37∨op=38) (n:¬ s.stack.length<aO op) (j:¬ 32+aO op<s.stack.length+aV op) (l:0≤a) (m:(s.funcs.length:Int)≤a) :
  Calls Tryz.prog 158 #[.pointer (some ⟨mb,0,none⟩),.agg #[Aj op,Aj a],Aj c] w fun e w'=>e=.returned (Aj 54)∧Below w.heap.size w w':=by
 have g:mb<w.heap.size+1:=by omega
 have d:=Gh op;have H:=Fo op;generalize y:aO op=T at *;generalize v:aV op=V at *;have k:=Aq y;have u:=Aq v;clear y v;have x:Hid (Yu op=true):=Aq (by rcases z with rfl|rfl <;> rfl);rcases z with rfl|rfl
 ·go_enter Tryz.func158,Tryz.ntmps158;go_wp2_with fail
  refine(Dc _ _).mono ?_;rintro e w1⟨rfl,rfl⟩;rw[k.o,u.o,x.o];go_wp2_with fail
  go_quiet (fail);go_wp2;go_ret;exact⟨rfl,below_drewN (aI.alloc Aw _) _⟩
 ·go_enter Tryz.func158,Tryz.ntmps158;go_wp2_with fail
  refine(Dc _ _).mono ?_;rintro e w1⟨rfl,rfl⟩;rw[k.o,u.o,x.o];go_wp2_with fail
  go_quiet (fail);go_wp2;go_ret;exact⟨rfl,below_drewN (aI.alloc Aw _) _⟩
theorem Zhw (w:World)(mb:Nat)(s:St)(op a c:Int)(p r b:Option Addr)(cs q cu:Nat)(f:mb<w.heap.size) (dX:w.cell? ⟨mb,40,none⟩=some (.slice p s.stack.length cs)) (H:w.cell? ⟨mb,1,none⟩=some (.slice r s.aD.length q)) (c0:w.cell? ⟨mb,0,none⟩=some (.slice b s.funcs.length cu)) (i:s.stack.length≤32) (X:s.aD.length≤21) (_hul:s.funcs.length≤1000000) (z:op=37∨op=38) (n:¬ s.stack.length<aO op) (j:¬ 32+aO op<s.stack.length+aV op) (l:0≤a) (m:a<s.funcs.length) (Y:20<s.aD.length) :
  Calls Tryz.prog 158 #[.pointer (some ⟨mb,0,none⟩),.agg #[Aj op,Aj a],Aj c] w fun e w'=>e=.returned (Aj 54)∧Below w.heap.size w w':=by
 have g:mb<w.heap.size+1:=by omega
 have d:=Gh op;have K:=Fo op;generalize y:aO op=T at *;generalize v:aV op=V at *;have k:=Aq y;have u:=Aq v;clear y v;have x:Hid (Yu op=true):=Aq (by rcases z with rfl|rfl <;> rfl);rcases z with rfl|rfl
 ·go_enter Tryz.func158,Tryz.ntmps158;go_wp2_with fail
  refine(Dc _ _).mono ?_;rintro e w1⟨rfl,rfl⟩;rw[k.o,u.o,x.o];go_wp2_with fail
  go_quiet (fail);go_wp2;go_ret;exact⟨rfl,below_drewN (aI.alloc Aw _) _⟩
 ·go_enter Tryz.func158,Tryz.ntmps158;go_wp2_with fail
  refine(Dc _ _).mono ?_;rintro e w1⟨rfl,rfl⟩;rw[k.o,u.o,x.o];go_wp2_with fail
  go_quiet (fail);go_wp2;go_ret;exact⟨rfl,below_drewN (aI.alloc Aw _) _⟩
theorem Zhz (w:World)(mb:Nat)(s:St)(op a c:Int)(p r b:Option Addr)(cs q cu:Nat)(f:mb<w.heap.size) (dX:w.cell? ⟨mb,40,none⟩=some (.slice p s.stack.length cs)) (H:w.cell? ⟨mb,1,none⟩=some (.slice r s.aD.length q)) (c0:w.cell? ⟨mb,0,none⟩=some (.slice b s.funcs.length cu)) (i:s.stack.length≤32) (X:s.aD.length≤21) (_hul:s.funcs.length≤1000000) (z:op=37∨op=38) (n:¬ s.stack.length<aO op) (j:¬ 32+aO op<s.stack.length+aV op) (l:0≤a) (m:a<s.funcs.length) (Y:¬ 20<s.aD.length) :
  Calls Tryz.prog 158 #[.pointer (some ⟨mb,0,none⟩),.agg #[Aj op,Aj a],Aj c] w fun e w'=>e=.returned (Aj 0)∧Below w.heap.size w w':=by
 have g:mb<w.heap.size+1:=by omega
 have d:=Gh op;have K:=Fo op;generalize y:aO op=T at *;generalize v:aV op=V at *;have k:=Aq y;have u:=Aq v;clear y v;have x:Hid (Yu op=true):=Aq (by rcases z with rfl|rfl <;> rfl);rcases z with rfl|rfl
 ·go_enter Tryz.func158,Tryz.ntmps158;go_wp2_with fail
  refine(Dc _ _).mono ?_;rintro e w1⟨rfl,rfl⟩;rw[k.o,u.o,x.o];go_wp2_with fail
  go_quiet (fail);go_wp2;go_ret;exact⟨rfl,below_drewN (aI.alloc Aw _) _⟩
 ·go_enter Tryz.func158,Tryz.ntmps158;go_wp2_with fail
  refine(Dc _ _).mono ?_;rintro e w1⟨rfl,rfl⟩;rw[k.o,u.o,x.o];go_wp2_with fail
  go_quiet (fail);go_wp2;go_ret;exact⟨rfl,below_drewN (aI.alloc Aw _) _⟩
theorem Yy (w:World)(mb:Nat)(O:Nat→Prop)(L:bd)(s:St)(h:ag w mb O L s)(op a x:Int) :
  Calls Tryz.prog 158 #[.pointer (some ⟨mb,0,none⟩),.agg #[Aj op,Aj a],Aj x] w fun e w'=>e=.returned (Aj (Fv s op a x))∧Below w.heap.size w w':=by
 obtain⟨q,cs,Y,_,_⟩:=h.sk.form;have dX:=h.aG.cell 40;rw[h.c.dX,Y]at dX;obtain⟨d,b,K,_,_⟩:=h.fr.form;have z:=h.aG.cell 1;rw[h.c.c1,K]at z;obtain⟨f,p,X,_,_⟩:=h.fu.form;have c0:=h.aG.cell 0;rw[h.c.c0,X]at c0;have u:=h.aG.lt;have k:=h.ok.df;have r:=h.ok.fX;have v:=h.ok.kJ;by_cases g:1≤op∧op≤39
 ·by_cases j:s.stack.length<aO op∨32+aO op<s.stack.length+aV op
  ·rw[Zeh g j];exact Zia w mb s op a x q d f cs b p u dX z c0 k r v g j
  ·have l:¬ s.stack.length<aO op:=fun e=>j (.inl e)
   have i:¬ 32+aO op<s.stack.length+aV op:=fun e=>j (.inr e)
   by_cases m:op=35∨op=36
   ·rw[Zek g j m];by_cases y:a<0∨x<a
    ·rw[if_pos y];exact mx w mb s op a x q d f cs b p u dX z c0 k r v m l i y
    ·rw[if_neg y];exact Zhv w mb s op a x q d f cs b p u dX z c0 k r v m l i (by omega) (by omega)
   ·by_cases y:op=37∨op=38
    ·rw[Zem g j y];by_cases o:a<0
     ·rw[if_pos (.inl o)];exact Zhy w mb s op a x q d f cs b p u dX z c0 k r v y l i o
     ·by_cases H:(s.funcs.length:Int)≤a
      ·rw[if_pos (.inr (.inl H))];exact Zhx w mb s op a x q d f cs b p u dX z c0 k r v y l i (by omega) H
      ·by_cases n:20<s.aD.length
       ·rw[if_pos (.inr (.inr n))];exact Zhw w mb s op a x q d f cs b p u dX z c0 k r v y l i (by omega) (by omega) n
       ·rw[if_neg (by omega)];exact Zhz w mb s op a x q d f cs b p u dX z c0 k r v y l i (by omega) (by omega) n
    ·rw[Zej g j m y];exact nj w mb s op a x q d f cs b p u dX z c0 k r v g l i m y
 ·rw[Zei g];exact Zib w mb s op a x q d f cs b p u dX z c0 k r v g
def Kt (fs:List Fm):Nat:=(fs.map (·.aY+1)).sum
def Zhd (w:World)(mb:Nat)(O:Nat→Prop)(s:St)(e:Ending)(w':World):Prop :=
 (∃x y,e=.returned (.tuple #[.agg #[Aj x,Aj y],.bool (next s).2.isSome])∧∀i,(next s).2=some i→i=(x,y))∧(∃L',ag w' mb O L' (next s).1)∧Fr O w w'
def lf (w:World)(mb:Nat)(O:Nat→Prop)(s:St)(k:Nat)(wr:World):Prop :=
 ∃fs L',Kt fs<k∧ag wr mb O L' { s with aD:=fs }∧Mc.settle fs=Mc.settle s.aD∧aH wr w.heap.size 96 #[Aj 0,Aj 0]∧Fr O w wr
theorem fZ {s:St}(h:s.ai=true):next s=(s,none):=by unfold next;rw[if_pos h]
theorem Zfs {s:St}(h:s.ai=false) (x:Mc.settle s.aD=[]):next s=({ s with aD:=[],ai:=true },none):=by unfold next;rw[if_neg (by simp[h]),x]
theorem Zbh {s:St}(h:s.ai=false){f:Fm}{r:List Fm}(x:Mc.settle s.aD=f::r){op a:Int} (hi:f.aA[f.next]?=some (op,a)) :
  next s=({ s with aD:=f::r,br:=Fv { s with aD:=f::r } op a (f.aA.length-1-f.next:Int),ai:=decide (Fv { s with aD:=f::r } op a (f.aA.length-1-f.next:Int)≠0) },if Fv { s with aD:=f::r } op a (f.aA.length-1-f.next:Int)=0 then some (op,a) else none):=by
 unfold next;rw[if_neg (by simp[h]),x];simp only[De hi]
theorem Oa {f:Fm}{r:List Fm}(h:f.next<f.aA.length):Mc.settle (f::r)=f::r:=by unfold Mc.settle;rw[if_pos h]
theorem Xg {f:Fm}{r:List Fm}(h:¬ f.next<f.aA.length)(x:f.aY=0):Mc.settle (f::r)=Mc.settle r:=by
 conv=>lhs;unfold Mc.settle
 rw[if_neg h,if_neg (by omega)]
theorem Sq {f:Fm}{r:List Fm}(h:¬ f.next<f.aA.length)(y:0<f.aY):Mc.settle ({ f with next:=0,aY:=f.aY-1 } :: r)=Mc.settle (f::r):=by
 by_cases x:0<f.aA.length
 ·rw[Oa (by simpa using x)]
  conv=>rhs;unfold Mc.settle
  rw[if_neg h,if_pos ⟨y,x⟩]
 ·have z:Mc.settle ({ f with next:=0,aY:=f.aY-1 } :: r)=Mc.settle r:=by
   conv=>lhs;unfold Mc.settle
   rw[if_neg (by simpa using x),if_neg (fun e=>x e.2)]
  have u:Mc.settle (f::r)=Mc.settle r:=by
   conv=>lhs;unfold Mc.settle
   rw[if_neg h,if_neg (by omega)]
  rw[z,u]
section
variable {w w' : World} {mb : Nat} {O : Nat → Prop} {L : bd} {s : St} {f : Fm} {r : List Fm}
theorem ag.drewN (h:ag w mb O L s)(n:Nat):ag (w.drewN n) mb O L s:=h.aQ (fun _ _=>rfl) (fun _ h=>h) h.eO
theorem ag.popFm (h:ag w mb O L s)(q:s.aD=f::r){g c:Nat}{v:Value}{vs:List Value}(z:nO w mb O L s f r g c v vs) :
  ∃L',ag (w.setCell ⟨mb,1,none⟩ (.slice (some ⟨g,0,none⟩) r.length c)) mb O L' { s with aD:=r } := by
 have b:=h.fr;rw[q,z.ix]at b;have a:=b.take (m:=r.length) (by simp) (A:=some ⟨g,0,none⟩) (c:=c) (by rw[z.fr];simp);rw[Zgm v vs f r z.mj]at a;have p:∀k,k≠mb→(w.setCell ⟨mb,1,none⟩ (.slice (some ⟨g,0,none⟩) r.length c)).heap[k]?=w.heap[k]?:=fun k y=>Bq _ _ _ _ y
 refine⟨_,h.dv (u:=.slice (some ⟨g,0,none⟩) r.length c) (vs:=vs) (fs:=r) ?_ (h.aG.aX 1 _) (h.c.mJ _ _ _) (a.aQ (fun k y=>p k (fun e=>a.cD h.aG (by decide) y e)) (fun _ h=>h)) (fun k y=>.inl (by rw[z.fr];exact y)) (fun k _ y _=>p k y) (fun _ h=>h) (fun k i=>by have:=h.eO k i;simpa [World.setCell]using this) (h.ok.dv (fun x j=>h.ok.aD x (by rw[q];exact oT _ j)) (by have:=h.ok.fX;rw[q]at this;simp at this;omega))⟩;exact z.mN.aQ (fun k cs l d=>p k (d.dF h.aG (by decide))) (fun _ h=>h)
end
theorem Vp (w:World)(mb:Nat)(O:Nat→Prop)(L:bd)(s:St)(h:ag w mb O L s) :
  Calls Tryz.prog 82 #[.pointer (some ⟨mb,0,none⟩)] w (Zhd w mb O s):=by
 by_cases I:s.ai=true
 ·have ew:=h.aG.cell 47;rw[h.c.ew,I]at ew;have hk:=h.aG.frozen 47;have B:=h.aG.lt;have b3:mb<w.heap.size+1:=by omega
  have Y:s = { s with ai:=true } := by cases s;simp only at I;subst I;rfl
  have K:=h.aX (h.c.iC true) (h.ok.dr h.ok.store h.ok.dQ h.ok.look h.ok.move h.ok.bG h.ok.aM);rw[←Y]at K;have l:=Aq (K.alloc (.cells #[Aj 0,Aj 0] 96));have HN:=Aq (fZ I);have HF:=Aq (((qF O w).setCell (p:=⟨mb,47,none⟩) (.inl h.eu) (.bool true)).alloc (.cells #[Aj 0,Aj 0] 96));clear h I Y K;go_enter Tryz.func82,Tryz.ntmps82;go_wp2;refine wp_loop_rounds 1 ?_;rw[rounds_succ];go_wp2;refine bodyPost_ret (v:=.tuple #[.agg #[Aj 0,Aj 0],.bool false]) (by simp[results,Tryz.results82,go_sem]) rfl ?_;unfold Zhd;rw[HN.o];exact⟨⟨0,0,rfl,fun i hi=>by cases hi⟩,⟨_,l.o⟩,HF.o⟩
 ·have y7:s.ai=false:=by simpa using I
  have H0:Hid (lf w mb O s (Kt s.aD+1) (w.alloc (.cells #[Aj 0,Aj 0] 96))):=Aq ⟨s.aD,L,by omega,h.alloc _,rfl,qG _ _ _,(qF O w).alloc _⟩;have HE:=Aq y7;have M:=Aq (h.gZ (pG w.heap.size));clear h I y7;go_enter Tryz.func82,Tryz.ntmps82;go_wp2;generalize w.alloc (.cells #[Aj 0,Aj 0] 96)=w0 at *;go_loopg [] (Kt s.aD+1) (fun k wr=>lf w mb O s k wr)
  case atStart=>exact H0.o
  case round =>
   clear H0;obtain⟨fs,L',d,z,Y,H,C⟩:=hrel;have l:=Aq z;have a9:=Aq Y;have HB:=Aq H;have HF:=Aq C;have ew:=z.aG.cell 47;rw[z.c.ew]at ew;dsimp only at ew;rw[HE.o]at ew;have hk:=z.aG.frozen 47;have B:=z.aG.lt;have R:=H.cell 0;have S:=H.cell 1;have x6:=H.frozen 0;have x3:=H.frozen 1;have bl:=H.lt;simp only[Az,Ay,Ba]at R S;have x0:mb≠w.heap.size:=fun e=>z.aG.dF H (by decide) e
   have mo:=z.ok.fX;dsimp only at mo;rcases fs with _|⟨f,r⟩
   ·obtain⟨A,c,hv,_,_⟩:=z.fr.form;have U:=z.aG.cell 1;rw[z.c.c1,hv]at U;simp only[Bx]at U;clear z Y H C hv;go_wp2;have K:=l.o.aX (l.o.c.iC true) (l.o.ok.dr l.o.ok.store l.o.ok.dQ l.o.ok.look l.o.ok.move l.o.ok.bG l.o.ok.aM);have z1:=(K.jl (p:=⟨w.heap.size,0,none⟩) M.o (Aj 0)).jl (p:=⟨w.heap.size,1,none⟩) M.o (Aj 0);have z3:=((HF.o.setCell (p:=⟨mb,47,none⟩) (.inl l.o.eu) (.bool true)).setCell (p:=⟨w.heap.size,0,none⟩) (.inr Aw) (Aj 0)).setCell (p:=⟨w.heap.size,1,none⟩) (.inr Aw) (Aj 0);have P:=Aq z1;have i1:=Aq z3;clear K z1 z3;refine bodyPost_ret (v:=.tuple #[.agg #[Aj 0,Aj 0],.bool false]) (by simp[results,Tryz.results82,go_sem,R,S]) rfl ?_;unfold Zhd;rw[Zfs HE.o (by rw[←a9.o];rfl)];exact⟨⟨0,0,rfl,fun i hi=>by cases hi⟩,⟨_,P.o⟩,i1.o⟩
   ·obtain⟨g,c,v,vs,y⟩:=z.bm rfl;have a6:=Aq y;obtain⟨Ac,cc,hB,_,_⟩:=y.aA.form;subst hB;have U:=z.aG.cell 1;rw[z.c.c1,y.fr]at U;have t0:=y.c0;have t1:=y.c1;have t2:=y.c2;have v4:=y.fz (r.length*3+1);have z0:=y.fz (r.length*3+2);have tg:=y.glt;have z9:=y.gmb;have x8:=y.cY;have y1:g≠w.heap.size:=fun e=>M.o (e ▸ y.gO)
    have a0:=z.ok.aD f (by simp);obtain⟨b2,b6,b7⟩:=a0;have f1:=z.aG.frozen 1;have hF:=z.aG.frozen 48;obtain⟨v9,y5⟩:∃u,wr.cell? ⟨mb,48,none⟩=some u:=⟨_,by rw[z.aG.cell];exact z.c.iH⟩;have a1:=Aq y.aA;by_cases h4:f.next<f.aA.length
    ·obtain⟨⟨op,a⟩,x1⟩:∃x,f.aA[f.next]?=some x:=⟨_,Bf h4⟩;obtain⟨gc,c6,hB,b9,_,c3,x2,x7,_⟩:=y.aA.aL (by omega)
     injection hB with hB _ a7
     subst hB a7;obtain⟨D,F⟩:=Gf x1;have q0:=x7 _ _ D;have q1:=x7 _ _ F;rw[oN 2]at q0 q1;dsimp only at q0 q1;have HN:=Aq (Zbh (s:=s) HE.o (f:=f) (r:=r) (Y.symm.trans (Oa h4)) x1);have a3:=l;clear z Y H C y x7 x1 D F a1;simp only[Bp]at mo;generalize K:r.length=m at *;generalize hM:f.next=J at *;generalize hm:f.aA.length=cl at *;clear K hM hm;obtain⟨k,v1,y6,d⟩:∃k,m<k∧k≤m+1∧m+1=k:=⟨m+1,by omega,by omega,rfl⟩;rw[d]at U x8;clear d;have V:IntKind.i64.wrap ((k:Int)-1)=(m:Int):=by rw[Do _ (by omega)];omega
     go_wp2_with fail
     go_quiet (fail);go_wp2_with fail
     clear V;go_quiet (fail);go_wp2_with fail
     rename_i n1 K5 b5;have y0:=Aq ((l.o.drewN n1).drewN nq);have v0:=Aq ((HB.o.drewN n1).drewN nq);have y2:=Aq ((HF.o.drewN n1).drewN nq)
     replace t0:((wr.drewN n1).drewN nq).cell? ⟨g,m*3,none⟩=_:=t0
     replace t1:((wr.drewN n1).drewN nq).cell? ⟨g,m*3+1,none⟩=_:=t1
     replace q0:((wr.drewN n1).drewN nq).cell? _=_:=q0
     replace q1:((wr.drewN n1).drewN nq).cell? _=_:=q1
     replace x2:gc<((wr.drewN n1).drewN nq).heap.size:=x2
     replace tg:g<((wr.drewN n1).drewN nq).heap.size:=tg
     replace bl:w.heap.size<((wr.drewN n1).drewN nq).heap.size:=bl
     replace B:mb<((wr.drewN n1).drewN nq).heap.size:=B
     clear l HB HF a6 a3 U f1 t2 v4 z0 ew hk R S x6 x3 hF y5;generalize (wr.drewN n1).drewN nq=W at *;go_region;go_wp2_with fail
     have E:=Aq ((qG W 96 #[Aj op,Aj a]).drew);have D:=E.o.cell 0;have F:=E.o.cell 1;simp only[Az,Ay,Ba]at D F;have P:=Aq ((y0.o.alloc (.cells #[Aj op,Aj a] 96)).drew);have z2:=Aq ((v0.o.alloc (.cells #[Aj op,Aj a] 96)).drew);have i1:=Aq ((y2.o.alloc (.cells #[Aj op,Aj a] 96)).drew);have v2:(W.alloc (.cells #[Aj op,Aj a] 96)).drew.cell? ⟨g,m*3,none⟩=_:=(Cc W _ _ tg).trans t0;have y4:(W.alloc (.cells #[Aj op,Aj a] 96)).drew.cell? ⟨g,m*3+1,none⟩=_:=(Cc W _ _ tg).trans t1;have y8:=Aq (y0.o.gZ (pG W.heap.size));have c9:=Aq (show W.heap.size≠w.heap.size by omega);have y9:g<(W.alloc (.cells #[Aj op,Aj a] 96)).drew.heap.size:=by simp;omega
     clear y0 v0 y2 t0 t1 q0 q1 tg bl B x2;generalize (W.alloc (.cells #[Aj op,Aj a] 96)).drew=W2 at *;generalize W.heap.size=ib at *;clear W;have V:IntKind.i64.wrap ((cl:Int)-1)=((cl:Int)-1):=by rw[Do _ (by omega)]
     have v6:IntKind.i64.wrap ((cl:Int)-1-J)=((cl:Int)-1-J):=by rw[Do _ (by omega)]
     have c1:ib≠mb:=fun e=>y8.o (e ▸ P.o.eu)
     go_region_held3 (fun w'=>w'.cell? ⟨g,m*3,none⟩=some (.slice (some ⟨gc,0,none⟩) cl cc)∧w'.cell? ⟨g,m*3+1,none⟩=some (Aj J)∧w'.cell? ⟨ib,0,none⟩=some (Aj op)∧w'.cell? ⟨ib,1,none⟩=some (Aj a)) (first|(go_keep;done)|(refine⟨?_,?_,?_,?_⟩ <;> (refine(ol _ _ _ _ (by intro e;injection e with e;first|exact z9 e|exact z9 e.symm|exact c1 e|exact c1 e.symm)).trans ?_;assumption)))
      (first|(go_at_call 158;refine(Yy W2.drew mb O L' _ P.o.drew op a _).mono ?_;rintro e w3⟨rfl,N⟩;have h1:Fr O W2 w3:=(qF O W2).drew.trans (qN N (fun k d _=>d));have b1:=Aq (h1.aG E.o y8.o);have q:=Aq (P.o.aQ (w':=w3) (fun k d=>N.block k (P.o.eO k d)) (fun _ h=>h) (fun k d=>Dq (P.o.eO k d) N.size));have z7:=Aq (h1.aG z2.o M.o);have v5:=Aq (i1.o.trans h1);have a5:=(N.cell (p:=⟨g,m*3,none⟩) y9).trans v2;have v7:=(N.cell (p:=⟨g,m*3+1,none⟩) y9).trans y4;have v3:=b1.o.cell 0;have z8:=b1.o.cell 1;simp only[Az,Ay,Ba]at v3 z8;clear h1 N E P z2 i1 D F v2 y4 V v6;obtain⟨v9,iH⟩:∃u,w3.cell? ⟨mb,48,none⟩=some u:=⟨_,by rw[q.o.aG.cell];exact q.o.c.iH⟩;have hF:=q.o.aG.frozen 48;have B:=q.o.aG.lt))
     rename_i a8;clear a8 a5 v7 v3 z8;generalize hE:Fv { s with aD:=f::r } op a ((cl:Int)-1-J)=er at *;clear hE;have X:=q.o.aX (q.o.c.my er) (q.o.ok.dr q.o.ok.store q.o.ok.dQ q.o.ok.look q.o.ok.move q.o.ok.bG q.o.ok.aM);have h5:=X.aX (X.c.iC (decide (er≠0))) (X.ok.dr X.ok.store X.ok.dQ X.ok.look X.ok.move X.ok.bG X.ok.aM);have ht:=Aq h5;have x9:=Aq ((v5.o.setCell (p:=⟨mb,48,none⟩) (.inl q.o.eu) (Aj er)).setCell (p:=⟨mb,47,none⟩) (.inl q.o.eu) (.bool (decide (er≠0))));have i0:=Aq ((b1.o.cZ (p:=⟨mb,48,none⟩) c1 (Aj er)).cZ (p:=⟨mb,47,none⟩) c1 (.bool (decide (er≠0))));have G:=Aq ((z7.o.cZ (p:=⟨mb,48,none⟩) x0.symm (Aj er)).cZ (p:=⟨mb,47,none⟩) x0.symm (.bool (decide (er≠0))));have ew:∃u,w3.cell? ⟨mb,47,none⟩=some u:=⟨_,by rw[q.o.aG.cell];exact q.o.c.ew⟩;obtain⟨b4,ew⟩:=ew;have hk:=q.o.aG.frozen 47;have B:=q.o.aG.lt;clear X h5 q v5 b1 z7;go_wp2_with fail
     have b0:Hid ((next s).2.isSome = !(er != 0)∧(∀i,(next s).2=some i→i=(op,a))∧(next s).1 = { s with aD:=f::r,ai:=decide (er≠0),br:=er }):=Aq (by
      rw[HN.o];by_cases T:er=0
      ·refine⟨by simp[T],fun i hi=>?_,rfl⟩;simp only[T,if_true]at hi;exact(oU hi).symm
      ·refine⟨by simp[T],fun i hi=>?_,rfl⟩;simp only[T,if_false]at hi;cases hi)
     clear HN;have y3:decide (er≠0)=(er != 0):=by by_cases T:er=0 <;> simp[T]
     rw[y3]at ht x9 i0 G b0;clear y3 ew iH hk hF B;generalize (er != 0)=b at *;have D:=i0.o.cell 0;have F:=i0.o.cell 1;simp only[Az,Ay,Ba]at D F;have R:=G.o.cell 0;have S:=G.o.cell 1;simp only[Az,Ay,Ba]at R S;have x6:=G.o.frozen 0;have x3:=G.o.frozen 1;have bl:=G.o.lt;have ew:=ht.o.aG.cell 47;rw[ht.o.c.ew]at ew;dsimp only at ew;generalize (w3.setCell ⟨mb,48,none⟩ (Aj er)).setCell ⟨mb,47,none⟩ (.bool b)=W5 at *;have a2:=Aq ((ht.o.drew.jl (p:=⟨w.heap.size,0,none⟩) M.o (Aj op)).jl (p:=⟨w.heap.size,1,none⟩) M.o (Aj a));have a4:=Aq ((x9.o.drew.setCell (p:=⟨w.heap.size,0,none⟩) (.inr Aw) (Aj op)).setCell (p:=⟨w.heap.size,1,none⟩) (.inr Aw) (Aj a));clear ht x9 i0 G;go_region;go_wp2_with fail
     refine bodyPost_ret (v:=.tuple #[.agg #[Aj op,Aj a],.bool !b]) (by simp[results,Tryz.results82,go_sem,R,S]) rfl ?_;unfold Zhd;rw[b0.o.1,b0.o.2.2];exact⟨⟨op,a,rfl,b0.o.2.1⟩,⟨_,a2.o⟩,a4.o⟩
    ·by_cases x4:0<f.aY
     ·obtain⟨Z,nx⟩:∃n,f.aY=n+1:=⟨f.aY-1,by omega⟩;have HM:Kt ({ f with next:=0,aY:=Z } :: r)<Kt (f::r):=by simp[Kt,nx]
      have h0:=Sq (r:=r) h4 x4;rw[show f.aY-1=Z by omega]at h0;have hW:=fun n=>(((z.drewN n).jk (f:=f) (r:=r) rfl (y.aQ (fun _ _=>rfl) Aw) (f' := { f with aY:=Z }) (n:=Z) (j:=r.length*3+2) (by omega) rfl (Zgn _ vs f r y.mj _) ⟨b2,by simp only;omega⟩))
      have z4:∀n,∃L2,ag (((wr.drewN n).setCell ⟨g,r.length*3+2,none⟩ (Aj Z)).setCell ⟨g,r.length*3+1,none⟩ (Aj 0)) mb O L2 { s with aD := { f with next:=0,aY:=Z } :: r } := fun n=>by
       obtain⟨g',c',v',v8,HO⟩:=(hW n).bm rfl;have e1:g=g'∧c=c'∧.slice Ac f.aA.length cc=v'∧vs=v8:=by
        have Q:=HO.fr;have h2:=HO.ix;rw[y.fr]at Q;rw[y.ix]at h2
        injection Q with Q _ h3
        injection Q with Q
        injection Q with Q
        injection h2 with h2 X
        exact⟨Q,h3,h2,X⟩
       obtain⟨rfl,rfl,rfl,rfl⟩:=e1;exact⟨_,(hW n).jk (f := { f with aY:=Z }) (r:=r) rfl HO (f' := { f with next:=0,aY:=Z }) (n:=0) (j:=r.length*3+1) (by omega) rfl (Px _ _ _ r y.mj _) ⟨By _,by simp only;omega⟩⟩
      have HI:Hid (∀n,lf w mb O s (Kt (f::r)) (((wr.drewN n).setCell ⟨g,r.length*3+2,none⟩ (Aj Z)).setCell ⟨g,r.length*3+1,none⟩ (Aj 0))):=Aq (fun n=>by
       obtain⟨L2,x5⟩:=z4 n;exact⟨_,L2,HM,x5,h0.trans Y,((H.drewN n).cZ (p:=⟨g,r.length*3+2,none⟩) y1.symm _).cZ (p:=⟨g,r.length*3+1,none⟩) y1.symm _,((C.drewN n).setCell (.inl y.gO) _).setCell (.inl y.gO) _⟩)
      rw[nx]at t2;have c7:Z≤15:=by omega
      clear hW z4 HM z Y H C y h0 nx x4;simp only[Bp]at mo;generalize K:r.length=m at *;generalize hM:f.next=J at *;generalize hm:f.aA.length=cl at *;clear K hM hm;obtain⟨k,v1,y6,d⟩:∃k,m<k∧k≤m+1∧m+1=k:=⟨m+1,by omega,by omega,rfl⟩;rw[d]at U x8;clear d;have V:IntKind.i64.wrap ((k:Int)-1)=(m:Int):=by rw[Do _ (by omega)];omega
      go_wp2_with fail
      go_quiet (fail);go_wp2_with fail
      clear V;go_quiet (fail);go_wp2;go_roundg (Kt (f::r))
      case measure=>exact d
      case rel=>exact HI.o _
     ·have hp:=fun n=>(z.drewN n).popFm (f:=f) (r:=r) rfl (y.aQ (fun _ _=>rfl) Aw)
      have HM:Kt r<Kt (f::r):=by simp[Kt]
      have HI:Hid (∀n,lf w mb O s (Kt (f::r)) ((wr.drewN n).setCell ⟨mb,1,none⟩ (.slice (some ⟨g,0,none⟩) r.length c))):=Aq (fun n=>by
       obtain⟨L2,x5⟩:=hp n;exact⟨r,L2,HM,x5,(Xg h4 (by omega)).symm.trans Y,(H.drewN n).cZ (p:=⟨mb,1,none⟩) x0.symm _,(C.drewN n).setCell (.inl z.eu) _⟩)
      have z6:f.aY=0:=by omega
      rw[z6]at t2;clear hp HM z Y H C y x4 z6;simp only[Bp]at mo;generalize K:r.length=m at *;generalize hM:f.next=J at *;generalize hm:f.aA.length=cl at *;clear K hM hm;obtain⟨k,v1,y6,d⟩:∃k,m<k∧k≤m+1∧m+1=k:=⟨m+1,by omega,by omega,rfl⟩;rw[d]at U x8;clear d;have V:IntKind.i64.wrap ((k:Int)-1)=(m:Int):=by rw[Do _ (by omega)];omega
      go_wp2_with fail
      go_quiet (fail);go_wp2_with fail
      clear V;go_quiet (fail);have V:IntKind.i64.wrap ((k:Int)-1)=(m:Int):=by rw[Do _ (by omega)];omega
      go_wp2_with fail
      rename_i n1;have E:=Aq (HI.o (n1+nq+1));have c8:(wr.drewN (n1+nq)).cell? ⟨mb,1,none⟩=some (.slice (some ⟨g,0,none⟩) k c):=U;have c4:(wr.drewN (n1+nq)).frozen? ⟨mb,1,none⟩=false:=f1;have z5:(wr.drewN (n1+nq)).drew=wr.drewN (n1+nq+1):=rfl;rw[←z5]at E;clear z5 HI U f1 t0 t1 t2 R S ew hk x6 x3 v4 z0 hF y5;generalize wr.drewN (n1+nq)=W at *;have c5:m≤c:=by omega
      have b8:(m:Int)≤(c:Int):=by omega
      go_still_tail 14,(by kernel_rfl);change wpList _ _ _ _ _ W.drew;go_wp2;go_roundg (Kt (f::r))
      case measure=>exact d
      case rel=>exact E.o
end
section
open Go.RowKit Mc
theorem Bn {f : Nat} {fn : Func} {c : Code} (y : Tryz.prog.funcs[f]? = some fn) (x : (fn.name == "runtime.NumGoroutine") = false) (z : fn.body = some c) : ∀ args w, Sem.run Tryz.prog (callFunc f args) w = .ok (.enter f args) w :=
 fun args w=>Go.MuLone.run_callFunc_enter y x z args w
theorem Ya (w:World)(mb:Nat)(O:Nat→Prop)(L:bd)(s:St)(h:ag w mb O L s)(a:Int) :
  Calls Tryz.prog 213 #[.pointer (some ⟨mb,0,none⟩),Aj a] w (aw w mb O (Nq s (a % 2))):=by
 have y:=Aq (Zcd w mb O L s h (a % 2) (by omega));clear h;go_enter Tryz.func213,Tryz.ntmps213;go_wp2_with fail
 refine(Qw _ 2 _ (by decide) (by decide)).mono ?_;rintro e w1⟨rfl,rfl⟩;go_wp2_with fail
 refine y.o.mono ?_;intro e u x;have z:=Aq (aw.dE x.2.1 x.2.2);obtain⟨rfl,_⟩:=x;go_wp2;go_end0;exact z.o
structure bW (n:Nat) (a:Int) (s:St):Prop where
 st:aO n≤s.stack.length
 lv:s.stack.length+aV n≤32+aO n
 jump:(n=35∨n=36)→∃f r,s.aD=f::r∧0≤a∧f.next+a.toNat≤f.aA.length
 call:(n=37∨n=38)→0≤a∧a.toNat<s.funcs.length∧s.aD.length≤20
def Ce (w:World)(mb:Nat)(O:Nat→Prop)(s:St)(n:Nat)(a:Int)(bs:Nat→Nat):Prop :=
 ∃id,(Nd n).1=.func id∧(∀args w,Sem.run Tryz.prog (callFunc id args) w=.ok (.enter id args) w) ∧
  Calls Tryz.prog id (match (Nd n).2 with|some _=>#[.pointer (some ⟨mb,0,none⟩),Aj a,.pointer (some ⟨bs n,0,none⟩)]|none=>#[.pointer (some ⟨mb,0,none⟩),Aj a]) w (aw w mb O (deed n a s))
theorem jh {l:List Int}(h:1≤l.length):∃x r,l=x::r:=by
 cases l with
 |nil=>simp at h
 |cons x r=>exact⟨x,r,rfl⟩
theorem jA {l:List Int}(h:2≤l.length):∃y x r,l=y::x::r:=by
 match l,h with
 |y::x::r,_=>exact⟨y,x,r,rfl⟩
 | [_],h=>simp at h
 | [],h=>simp at h
section
variable {w : World} {mb : Nat} {O : Nat → Prop} {L : bd} {s : St} {a : Int} {bs : Nat → Nat}
theorem dc1 (h:ag w mb O L s)(x:bW 1 a s)(_hb:DeedBox w O bs 1):Ce w mb O s 1 a bs:=by
 refine⟨_,rfl,(Bn Tryz.func166 (by kernel_rfl) rfl),?_⟩;have e:deed ((1:Nat):Int) a s=push a s:=rfl;rw[e];exact Zao w mb O L s h a (by have:=x.lv;simp[aO,aV]at this;omega)
theorem dc2 (h:ag w mb O L s)(u:bW 2 a s)(_hb:DeedBox w O bs 2):Ce w mb O s 2 a bs:=by
 obtain⟨x,r,y⟩:=jh (l:=s.stack) (by have:=u.st;simpa [aO]using this);refine⟨_,rfl,(Bn Tryz.func168 (by kernel_rfl) rfl),?_⟩;have e:deed ((2:Nat):Int) a s = { s with stack:=r } := by
  have z:deed ((2:Nat):Int) a s = { s with stack:=(s.stack.drop 1) } := rfl;rw[z,y];rfl
 rw[e];exact Zfn w mb O L s h a x r y
theorem dc3 (h:ag w mb O L s)(z:bW 3 a s)(_hb:DeedBox w O bs 3):Ce w mb O s 3 a bs:=by
 obtain⟨x,r,y⟩:=jh (l:=s.stack) (by have:=z.st;simpa [aO]using this);refine⟨_,rfl,(Bn Tryz.func170 (by kernel_rfl) rfl),?_⟩;have e:deed ((3:Nat):Int) a s=push x (push x { s with stack:=r }):=by
  have u:deed ((3:Nat):Int) a s=push (s.stack.getD 0 0) (push (s.stack.getD 0 0) { s with stack:=(s.stack.drop 1) }):=rfl;rw[u,y];rfl
 rw[e];exact Zgq w mb O L s h a x r y (by have:=z.lv;simp[aO,aV]at this;omega)
theorem dc4 (h:ag w mb O L s)(v:bW 4 a s)(_hb:DeedBox w O bs 4):Ce w mb O s 4 a bs:=by
 obtain⟨y,x,r,z⟩:=jA (l:=s.stack) (by have:=v.st;simpa [aO]using this);refine⟨_,rfl,(Bn Tryz.func171 (by kernel_rfl) rfl),?_⟩;have e:deed ((4:Nat):Int) a s=push x (push y { s with stack:=r }):=by
  have u:deed ((4:Nat):Int) a s=push (s.stack.getD 1 0) (push (s.stack.getD 0 0) { s with stack:=(s.stack.drop 2) }):=rfl;rw[u,z];rfl
 rw[e];exact Zk w mb O L s h a x y r z
theorem dc5 (h:ag w mb O L s)(p:bW 5 a s)(k:DeedBox w O bs 5):Ce w mb O s 5 a bs:=by
 obtain⟨y,x,r,z⟩:=jA (l:=s.stack) (by have:=p.st;simpa [aO]using this);refine⟨_,rfl,(Bn Tryz.func250 (by kernel_rfl) rfl),?_⟩;have e:deed ((5:Nat):Int) a s=push (x+y) { s with stack:=r } := by
  have u:deed ((5:Nat):Int) a s=push ((s.stack.getD 1 0)+(s.stack.getD 0 0)) { s with stack:=s.stack.drop 2 } := rfl;rw[u,z];rfl
 rw[e];exact Gn w mb O L s h a x y r z (bs 5) _ k.2 _ (Bn Tryz.func173 (by kernel_rfl) rfl) (fun w q v=>d5 x y w q v)
theorem dc6 (h:ag w mb O L s)(p:bW 6 a s)(k:DeedBox w O bs 6):Ce w mb O s 6 a bs:=by
 obtain⟨y,x,r,z⟩:=jA (l:=s.stack) (by have:=p.st;simpa [aO]using this);refine⟨_,rfl,(Bn Tryz.func250 (by kernel_rfl) rfl),?_⟩;have e:deed ((6:Nat):Int) a s=push (x-y) { s with stack:=r } := by
  have u:deed ((6:Nat):Int) a s=push ((s.stack.getD 1 0)-(s.stack.getD 0 0)) { s with stack:=s.stack.drop 2 } := rfl;rw[u,z];rfl
 rw[e];exact Gn w mb O L s h a x y r z (bs 6) _ k.2 _ (Bn Tryz.func174 (by kernel_rfl) rfl) (fun w q v=>d6 x y w q v)
theorem dc7 (h:ag w mb O L s)(p:bW 7 a s)(k:DeedBox w O bs 7):Ce w mb O s 7 a bs:=by
 obtain⟨y,x,r,z⟩:=jA (l:=s.stack) (by have:=p.st;simpa [aO]using this);refine⟨_,rfl,(Bn Tryz.func250 (by kernel_rfl) rfl),?_⟩;have e:deed ((7:Nat):Int) a s=push (bA (x*y / 64)) { s with stack:=r } := by
  have u:deed ((7:Nat):Int) a s=push (bA ((s.stack.getD 1 0)*(s.stack.getD 0 0) / 64)) { s with stack:=s.stack.drop 2 } := rfl;rw[u,z];rfl
 rw[e];exact Gn w mb O L s h a x y r z (bs 7) _ k.2 _ (Bn Tryz.func175 (by kernel_rfl) rfl) (fun w q v=>d7 x y w q v)
theorem dc8 (h:ag w mb O L s)(p:bW 8 a s)(k:DeedBox w O bs 8):Ce w mb O s 8 a bs:=by
 obtain⟨y,x,r,z⟩:=jA (l:=s.stack) (by have:=p.st;simpa [aO]using this);refine⟨_,rfl,(Bn Tryz.func250 (by kernel_rfl) rfl),?_⟩;have e:deed ((8:Nat):Int) a s=push (bA (eT (64*x) y)) { s with stack:=r } := by
  have u:deed ((8:Nat):Int) a s=push (bA (eT (64*(s.stack.getD 1 0)) (s.stack.getD 0 0))) { s with stack:=s.stack.drop 2 } := rfl;rw[u,z];rfl
 rw[e];exact Gn w mb O L s h a x y r z (bs 8) _ k.2 _ (Bn Tryz.func177 (by kernel_rfl) rfl) (fun w q v=>d8 x y w q v)
theorem dc9 (h:ag w mb O L s)(v:bW 9 a s)(u:DeedBox w O bs 9):Ce w mb O s 9 a bs:=by
 obtain⟨x,r,y⟩:=jh (l:=s.stack) (by have:=v.st;simpa [aO]using this);refine⟨_,rfl,(Bn Tryz.func251 (by kernel_rfl) rfl),?_⟩;have e:deed ((9:Nat):Int) a s=push (-x) { s with stack:=r } := by
  have z:deed ((9:Nat):Int) a s=push (-(s.stack.getD 0 0)) { s with stack:=s.stack.drop 1 } := rfl;rw[z,y];rfl
 rw[e];exact Mp w mb O L s h a x r y (bs 9) _ u.2 _ (Bn Tryz.func180 (by kernel_rfl) rfl) (fun w k=>d9 x w k)
theorem dc10 (h:ag w mb O L s)(v:bW 10 a s)(u:DeedBox w O bs 10):Ce w mb O s 10 a bs:=by
 obtain⟨x,r,y⟩:=jh (l:=s.stack) (by have:=v.st;simpa [aO]using this);refine⟨_,rfl,(Bn Tryz.func251 (by kernel_rfl) rfl),?_⟩;have e:deed ((10:Nat):Int) a s=push (max x (-x)) { s with stack:=r } := by
  have z:deed ((10:Nat):Int) a s=push (max (s.stack.getD 0 0) (-(s.stack.getD 0 0))) { s with stack:=s.stack.drop 1 } := rfl;rw[z,y];rfl
 rw[e];exact Mp w mb O L s h a x r y (bs 10) _ u.2 _ (Bn Tryz.func181 (by kernel_rfl) rfl) (fun w k=>kM x w k)
theorem dc11 (h:ag w mb O L s)(p:bW 11 a s)(k:DeedBox w O bs 11):Ce w mb O s 11 a bs:=by
 obtain⟨y,x,r,z⟩:=jA (l:=s.stack) (by have:=p.st;simpa [aO]using this);refine⟨_,rfl,(Bn Tryz.func250 (by kernel_rfl) rfl),?_⟩;have e:deed ((11:Nat):Int) a s=push (min x y) { s with stack:=r } := by
  have u:deed ((11:Nat):Int) a s=push (min (s.stack.getD 1 0) (s.stack.getD 0 0)) { s with stack:=s.stack.drop 2 } := rfl;rw[u,z];rfl
 rw[e];exact Gn w mb O L s h a x y r z (bs 11) _ k.2 _ (Bn Tryz.func182 (by kernel_rfl) rfl) (fun w q v=>iZ x y w q v)
theorem dc12 (h:ag w mb O L s)(p:bW 12 a s)(k:DeedBox w O bs 12):Ce w mb O s 12 a bs:=by
 obtain⟨y,x,r,z⟩:=jA (l:=s.stack) (by have:=p.st;simpa [aO]using this);refine⟨_,rfl,(Bn Tryz.func250 (by kernel_rfl) rfl),?_⟩;have e:deed ((12:Nat):Int) a s=push (max x y) { s with stack:=r } := by
  have u:deed ((12:Nat):Int) a s=push (max (s.stack.getD 1 0) (s.stack.getD 0 0)) { s with stack:=s.stack.drop 2 } := rfl;rw[u,z];rfl
 rw[e];exact Gn w mb O L s h a x y r z (bs 12) _ k.2 _ (Bn Tryz.func183 (by kernel_rfl) rfl) (fun w q v=>jK x y w q v)
theorem dc13 (h:ag w mb O L s)(v:bW 13 a s)(u:DeedBox w O bs 13):Ce w mb O s 13 a bs:=by
 obtain⟨x,r,y⟩:=jh (l:=s.stack) (by have:=v.st;simpa [aO]using this);refine⟨_,rfl,(Bn Tryz.func251 (by kernel_rfl) rfl),?_⟩;have e:deed ((13:Nat):Int) a s=push (Db 4 x) { s with stack:=r } := by
  have z:deed ((13:Nat):Int) a s=push (Db 4 (s.stack.getD 0 0)) { s with stack:=s.stack.drop 1 } := rfl;rw[z,y];rfl
 rw[e];exact Mp w mb O L s h a x r y (bs 13) _ u.2 _ (Bn Tryz.func184 (by kernel_rfl) rfl) (fun w k=>nS x w k)
theorem dc14 (h:ag w mb O L s)(v:bW 14 a s)(u:DeedBox w O bs 14):Ce w mb O s 14 a bs:=by
 obtain⟨x,r,y⟩:=jh (l:=s.stack) (by have:=v.st;simpa [aO]using this);refine⟨_,rfl,(Bn Tryz.func251 (by kernel_rfl) rfl),?_⟩;have e:deed ((14:Nat):Int) a s=push (Db 5 x) { s with stack:=r } := by
  have z:deed ((14:Nat):Int) a s=push (Db 5 (s.stack.getD 0 0)) { s with stack:=s.stack.drop 1 } := rfl;rw[z,y];rfl
 rw[e];exact Mp w mb O L s h a x r y (bs 14) _ u.2 _ (Bn Tryz.func185 (by kernel_rfl) rfl) (fun w k=>nN x w k)
theorem dc15 (h:ag w mb O L s)(u:bW 15 a s)(_hb:DeedBox w O bs 15):Ce w mb O s 15 a bs:=by
 obtain⟨x,r,y⟩:=jh (l:=s.stack) (by have:=u.st;simpa [aO]using this);refine⟨_,rfl,(Bn Tryz.func186 (by kernel_rfl) rfl),?_⟩;have e:deed ((15:Nat):Int) a s=push (Db s.bG x) { s with stack:=r } := by
  have z:deed ((15:Nat):Int) a s=push (Db s.bG (s.stack.getD 0 0)) { s with stack:=(s.stack.drop 1) } := rfl;rw[z,y];rfl
 rw[e];exact Xk w mb O L s h a x r y
theorem dc16 (h:ag w mb O L s)(p:bW 16 a s)(k:DeedBox w O bs 16):Ce w mb O s 16 a bs:=by
 obtain⟨y,x,r,z⟩:=jA (l:=s.stack) (by have:=p.st;simpa [aO]using this);refine⟨_,rfl,(Bn Tryz.func250 (by kernel_rfl) rfl),?_⟩;have e:deed ((16:Nat):Int) a s=push (bC (decide (x<y))) { s with stack:=r } := by
  have u:deed ((16:Nat):Int) a s=push (bC (decide ((s.stack.getD 1 0)<(s.stack.getD 0 0)))) { s with stack:=s.stack.drop 2 } := rfl;rw[u,z];rfl
 rw[e];exact Gn w mb O L s h a x y r z (bs 16) _ k.2 _ (Bn Tryz.func187 (by kernel_rfl) rfl) (fun w q v=>nI x y w q v)
theorem dc17 (h:ag w mb O L s)(p:bW 17 a s)(k:DeedBox w O bs 17):Ce w mb O s 17 a bs:=by
 obtain⟨y,x,r,z⟩:=jA (l:=s.stack) (by have:=p.st;simpa [aO]using this);refine⟨_,rfl,(Bn Tryz.func250 (by kernel_rfl) rfl),?_⟩;have e:deed ((17:Nat):Int) a s=push (bC (decide (x≤y))) { s with stack:=r } := by
  have u:deed ((17:Nat):Int) a s=push (bC (decide ((s.stack.getD 1 0)≤(s.stack.getD 0 0)))) { s with stack:=s.stack.drop 2 } := rfl;rw[u,z];rfl
 rw[e];exact Gn w mb O L s h a x y r z (bs 17) _ k.2 _ (Bn Tryz.func189 (by kernel_rfl) rfl) (fun w q v=>lK x y w q v)
theorem dc18 (h:ag w mb O L s)(p:bW 18 a s)(k:DeedBox w O bs 18):Ce w mb O s 18 a bs:=by
 obtain⟨y,x,r,z⟩:=jA (l:=s.stack) (by have:=p.st;simpa [aO]using this);refine⟨_,rfl,(Bn Tryz.func250 (by kernel_rfl) rfl),?_⟩;have e:deed ((18:Nat):Int) a s=push (bC (decide (x=y))) { s with stack:=r } := by
  have u:deed ((18:Nat):Int) a s=push (bC (decide ((s.stack.getD 1 0)=(s.stack.getD 0 0)))) { s with stack:=s.stack.drop 2 } := rfl;rw[u,z];rfl
 rw[e];exact Gn w mb O L s h a x y r z (bs 18) _ k.2 _ (Bn Tryz.func190 (by kernel_rfl) rfl) (fun w q v=>d18 x y w q v)
theorem dc19 (h:ag w mb O L s)(v:bW 19 a s)(u:DeedBox w O bs 19):Ce w mb O s 19 a bs:=by
 obtain⟨x,r,y⟩:=jh (l:=s.stack) (by have:=v.st;simpa [aO]using this);refine⟨_,rfl,(Bn Tryz.func251 (by kernel_rfl) rfl),?_⟩;have e:deed ((19:Nat):Int) a s=push (bC (decide (x=0))) { s with stack:=r } := by
  have z:deed ((19:Nat):Int) a s=push (bC (decide ((s.stack.getD 0 0)=0))) { s with stack:=s.stack.drop 1 } := rfl;rw[z,y];rfl
 rw[e];exact Mp w mb O L s h a x r y (bs 19) _ u.2 _ (Bn Tryz.func191 (by kernel_rfl) rfl) (fun w k=>d19 x w k)
theorem dc20 (h:ag w mb O L s)(p:bW 20 a s)(k:DeedBox w O bs 20):Ce w mb O s 20 a bs:=by
 obtain⟨y,x,r,z⟩:=jA (l:=s.stack) (by have:=p.st;simpa [aO]using this);refine⟨_,rfl,(Bn Tryz.func250 (by kernel_rfl) rfl),?_⟩;have e:deed ((20:Nat):Int) a s=push (bC (decide (x≠0∧y≠0))) { s with stack:=r } := by
  have u:deed ((20:Nat):Int) a s=push (bC (decide ((s.stack.getD 1 0)≠0∧(s.stack.getD 0 0)≠0))) { s with stack:=s.stack.drop 2 } := rfl;rw[u,z];rfl
 rw[e];exact Gn w mb O L s h a x y r z (bs 20) _ k.2 _ (Bn Tryz.func192 (by kernel_rfl) rfl) (fun w q v=>d20 x y w q v)
theorem dc21 (h:ag w mb O L s)(p:bW 21 a s)(k:DeedBox w O bs 21):Ce w mb O s 21 a bs:=by
 obtain⟨y,x,r,z⟩:=jA (l:=s.stack) (by have:=p.st;simpa [aO]using this);refine⟨_,rfl,(Bn Tryz.func250 (by kernel_rfl) rfl),?_⟩;have e:deed ((21:Nat):Int) a s=push (bC (decide (x≠0∨y≠0))) { s with stack:=r } := by
  have u:deed ((21:Nat):Int) a s=push (bC (decide ((s.stack.getD 1 0)≠0∨(s.stack.getD 0 0)≠0))) { s with stack:=s.stack.drop 2 } := rfl;rw[u,z];rfl
 rw[e];exact Gn w mb O L s h a x y r z (bs 21) _ k.2 _ (Bn Tryz.func193 (by kernel_rfl) rfl) (fun w q v=>d21 x y w q v)
theorem dc22 (h:ag w mb O L s)(_hc:bW 22 a s)(_hb:DeedBox w O bs 22):Ce w mb O s 22 a bs:=by
 refine⟨_,rfl,(Bn Tryz.func194 (by kernel_rfl) rfl),?_⟩;have e:deed ((22:Nat):Int) a s = { s with look:=a % 2 } := rfl;rw[e];exact Zar w mb O L s h a
theorem dc23 (h:ag w mb O L s)(_hc:bW 23 a s)(_hb:DeedBox w O bs 23):Ce w mb O s 23 a bs:=by
 refine⟨_,rfl,(Bn Tryz.func196 (by kernel_rfl) rfl),?_⟩;have e:deed ((23:Nat):Int) a s = { s with move:=a % 2 } := rfl;rw[e];exact Zcs w mb O L s h a
theorem dc24 (h:ag w mb O L s)(_hc:bW 24 a s)(_hb:DeedBox w O bs 24):Ce w mb O s 24 a bs:=by
 refine⟨_,rfl,(Bn Tryz.func197 (by kernel_rfl) rfl),?_⟩;have e:deed ((24:Nat):Int) a s = { s with bG:=a % 6 } := rfl;rw[e];exact Zbo w mb O L s h a
theorem dc25 (h:ag w mb O L s)(u:bW 25 a s)(_hb:DeedBox w O bs 25):Ce w mb O s 25 a bs:=by
 obtain⟨x,r,y⟩:=jh (l:=s.stack) (by have:=u.st;simpa [aO]using this);refine⟨_,rfl,(Bn Tryz.func198 (by kernel_rfl) rfl),?_⟩;have e:deed ((25:Nat):Int) a s=push (aL s.aP x) { s with stack:=r } := by
  have z:deed ((25:Nat):Int) a s=push (aL s.aP (s.stack.getD 0 0)) { s with stack:=(s.stack.drop 1) } := rfl;rw[z,y];rfl
 rw[e];exact Zgu w mb O L s h a x r y
theorem dc26 (h:ag w mb O L s)(v:bW 26 a s)(_hb:DeedBox w O bs 26):Ce w mb O s 26 a bs:=by
 obtain⟨y,x,r,z⟩:=jA (l:=s.stack) (by have:=v.st;simpa [aO]using this);refine⟨_,rfl,(Bn Tryz.func200 (by kernel_rfl) rfl),?_⟩;have e:deed ((26:Nat):Int) a s = { s with stack:=r,aP:=Iy s.aP x y } := by
  have u:deed ((26:Nat):Int) a s = { s with stack:=(s.stack.drop 2),aP:=Iy s.aP (s.stack.getD 1 0) (s.stack.getD 0 0) } := rfl;rw[u,z];rfl
 rw[e];exact Ss w mb O L s h a x y r z
theorem dc27 (h:ag w mb O L s)(u:bW 27 a s)(_hb:DeedBox w O bs 27):Ce w mb O s 27 a bs:=by
 obtain⟨x,r,y⟩:=jh (l:=s.stack) (by have:=u.st;simpa [aO]using this);refine⟨_,rfl,(Bn Tryz.func202 (by kernel_rfl) rfl),?_⟩;have e:deed ((27:Nat):Int) a s=push (aL s.store x) { s with stack:=r } := by
  have z:deed ((27:Nat):Int) a s=push (aL s.store (s.stack.getD 0 0)) { s with stack:=(s.stack.drop 1) } := rfl;rw[z,y];rfl
 rw[e];exact Zbx w mb O L s h a x r y
theorem dc28 (h:ag w mb O L s)(v:bW 28 a s)(_hb:DeedBox w O bs 28):Ce w mb O s 28 a bs:=by
 obtain⟨y,x,r,z⟩:=jA (l:=s.stack) (by have:=v.st;simpa [aO]using this);refine⟨_,rfl,(Bn Tryz.func203 (by kernel_rfl) rfl),?_⟩;have e:deed ((28:Nat):Int) a s = { s with stack:=r,store:=Iy s.store x y } := by
  have u:deed ((28:Nat):Int) a s = { s with stack:=(s.stack.drop 2),store:=Iy s.store (s.stack.getD 1 0) (s.stack.getD 0 0) } := rfl;rw[u,z];rfl
 rw[e];exact Zx w mb O L s h a x y r z
theorem dc29 (h:ag w mb O L s)(u:bW 29 a s)(_hb:DeedBox w O bs 29):Ce w mb O s 29 a bs:=by
 obtain⟨x,r,y⟩:=jh (l:=s.stack) (by have:=u.st;simpa [aO]using this);refine⟨_,rfl,(Bn Tryz.func204 (by kernel_rfl) rfl),?_⟩;have e:deed ((29:Nat):Int) a s=push (Mv s s.aF x) { s with stack:=r } := by
  have z:deed ((29:Nat):Int) a s=push (Mv s s.aF (s.stack.getD 0 0)) { s with stack:=(s.stack.drop 1) } := rfl;rw[z,y];rfl
 rw[e];exact Zgl w mb O L s h a x r y
theorem dc30 (h:ag w mb O L s)(u:bW 30 a s)(_hb:DeedBox w O bs 30):Ce w mb O s 30 a bs:=by
 obtain⟨x,r,y⟩:=jh (l:=s.stack) (by have:=u.st;simpa [aO]using this);refine⟨_,rfl,(Bn Tryz.func206 (by kernel_rfl) rfl),?_⟩;have e:deed ((30:Nat):Int) a s=push (Mv s s.aT x) { s with stack:=r } := by
  have z:deed ((30:Nat):Int) a s=push (Mv s s.aT (s.stack.getD 0 0)) { s with stack:=(s.stack.drop 1) } := rfl;rw[z,y];rfl
 rw[e];exact Zfq w mb O L s h a x r y
theorem dc31 (h:ag w mb O L s)(v:bW 31 a s)(_hb:DeedBox w O bs 31):Ce w mb O s 31 a bs:=by
 obtain⟨y,x,r,z⟩:=jA (l:=s.stack) (by have:=v.st;simpa [aO]using this);refine⟨_,rfl,(Bn Tryz.func207 (by kernel_rfl) rfl),?_⟩;have e:deed ((31:Nat):Int) a s=Rg s r x y:=by
  have u:deed ((31:Nat):Int) a s=Rg s (s.stack.drop 2) (s.stack.getD 1 0) (s.stack.getD 0 0):=rfl;rw[u,z];rfl
 rw[e];exact Zbm w mb O L s h a x y r z
theorem dc32 (h:ag w mb O L s)(v:bW 32 a s)(_hb:DeedBox w O bs 32):Ce w mb O s 32 a bs:=by
 obtain⟨y,x,r,z⟩:=jA (l:=s.stack) (by have:=v.st;simpa [aO]using this);refine⟨_,rfl,(Bn Tryz.func209 (by kernel_rfl) rfl),?_⟩;have e:deed ((32:Nat):Int) a s=mP s r x y:=by
  have u:deed ((32:Nat):Int) a s=mP s (s.stack.drop 2) (s.stack.getD 1 0) (s.stack.getD 0 0):=rfl;rw[u,z];rfl
 rw[e];exact Zfc w mb O L s h a x y r z
theorem dc33 (h:ag w mb O L s)(v:bW 33 a s)(_hb:DeedBox w O bs 33):Ce w mb O s 33 a bs:=by
 obtain⟨y,x,r,z⟩:=jA (l:=s.stack) (by have:=v.st;simpa [aO]using this);refine⟨_,rfl,(Bn Tryz.func211 (by kernel_rfl) rfl),?_⟩;have e:deed ((33:Nat):Int) a s=Lk s r x y:=by
  have u:deed ((33:Nat):Int) a s=Lk s (s.stack.drop 2) (s.stack.getD 1 0) (s.stack.getD 0 0):=rfl;rw[u,z];rfl
 rw[e];exact Yp w mb O L s h a x y r z
theorem dc34 (h:ag w mb O L s)(_hc:bW 34 a s)(_hb:DeedBox w O bs 34):Ce w mb O s 34 a bs:=by
 refine⟨_,rfl,(Bn Tryz.func213 (by kernel_rfl) rfl),?_⟩;have e:deed ((34:Nat):Int) a s=Nq s (a % 2):=rfl;rw[e];exact Ya w mb O L s h a
theorem dc35 (h:ag w mb O L s)(z:bW 35 a s)(_hb:DeedBox w O bs 35):Ce w mb O s 35 a bs:=by
 obtain⟨f,r,x,y,u⟩:=z.jump (.inl rfl);obtain⟨m,rfl⟩:=Dm y;refine⟨_,rfl,(Bn Tryz.func215 (by kernel_rfl) rfl),?_⟩;have e:deed ((35:Nat):Int) (m:Int) s=cC s m:=rfl;rw[e];exact Zcb w mb O L s h f r x m (by simpa using u)
theorem dc36 (h:ag w mb O L s)(z:bW 36 a s)(_hb:DeedBox w O bs 36):Ce w mb O s 36 a bs:=by
 obtain⟨f,r,v,k,p⟩:=z.jump (.inr rfl);obtain⟨m,rfl⟩:=Dm k;obtain⟨x,l,y⟩:=jh (l:=s.stack) (by have:=z.st;simpa [aO]using this);refine⟨_,rfl,(Bn Tryz.func217 (by kernel_rfl) rfl),?_⟩;have e:deed ((36:Nat):Int) (m:Int) s=Ld s l x m:=by
  have u:deed ((36:Nat):Int) (m:Int) s=Ld s (s.stack.drop 1) (s.stack.getD 0 0) m:=rfl;rw[u,y];rfl
 rw[e];exact Xw w mb O L s h x l y f r v m (by simpa using p)
theorem dc37 (h:ag w mb O L s)(u:bW 37 a s)(_hb:DeedBox w O bs 37):Ce w mb O s 37 a bs:=by
 obtain⟨z,x,y⟩:=u.call (.inl rfl);obtain⟨m,rfl⟩:=Dm z;refine⟨_,rfl,(Bn Tryz.func219 (by kernel_rfl) rfl),?_⟩;have e:deed ((37:Nat):Int) (m:Int) s=call s m 1:=rfl;rw[e];exact Yn w mb O L s h m (by simpa using x) y
theorem dc38 (h:ag w mb O L s)(z:bW 38 a s)(_hb:DeedBox w O bs 38):Ce w mb O s 38 a bs:=by
 obtain⟨p,v,k⟩:=z.call (.inr rfl);obtain⟨m,rfl⟩:=Dm p;obtain⟨x,l,y⟩:=jh (l:=s.stack) (by have:=z.st;simpa [aO]using this);refine⟨_,rfl,(Bn Tryz.func221 (by kernel_rfl) rfl),?_⟩;have e:deed ((38:Nat):Int) (m:Int) s=call { s with stack:=l } m (min x 16):=by
  have u:deed ((38:Nat):Int) (m:Int) s=call { s with stack:=s.stack.drop 1 } m (min (s.stack.getD 0 0) 16):=rfl;rw[u,y];rfl
 rw[e];exact Zbv w mb O L s h x l y m (by simpa using v) k
theorem dc39 (h:ag w mb O L s)(x:bW 39 a s)(_hb:DeedBox w O bs 39):Ce w mb O s 39 a bs:=by
 refine⟨_,rfl,(Bn Tryz.func223 (by kernel_rfl) rfl),?_⟩;have e:deed ((39:Nat):Int) a s=push s.size s:=rfl;rw[e];exact Zq w mb O L s h a (by have:=x.lv;simp[aO,aV]at this;omega)
theorem Zgt (h:ag w mb O L s){n:Nat}(u:1≤n)(z:n≤39)(y:bW n a s)(x:DeedBox w O bs n):Ce w mb O s n a bs:=by
 match n,u,z,y,x with
 |1,_,_,y,x=>exact dc1 h y x
 |2,_,_,y,x=>exact dc2 h y x
 |3,_,_,y,x=>exact dc3 h y x
 |4,_,_,y,x=>exact dc4 h y x
 |5,_,_,y,x=>exact dc5 h y x
 |6,_,_,y,x=>exact dc6 h y x
 |7,_,_,y,x=>exact dc7 h y x
 |8,_,_,y,x=>exact dc8 h y x
 |9,_,_,y,x=>exact dc9 h y x
 |10,_,_,y,x=>exact dc10 h y x
 |11,_,_,y,x=>exact dc11 h y x
 |12,_,_,y,x=>exact dc12 h y x
 |13,_,_,y,x=>exact dc13 h y x
 |14,_,_,y,x=>exact dc14 h y x
 |15,_,_,y,x=>exact dc15 h y x
 |16,_,_,y,x=>exact dc16 h y x
 |17,_,_,y,x=>exact dc17 h y x
 |18,_,_,y,x=>exact dc18 h y x
 |19,_,_,y,x=>exact dc19 h y x
 |20,_,_,y,x=>exact dc20 h y x
 |21,_,_,y,x=>exact dc21 h y x
 |22,_,_,y,x=>exact dc22 h y x
 |23,_,_,y,x=>exact dc23 h y x
 |24,_,_,y,x=>exact dc24 h y x
 |25,_,_,y,x=>exact dc25 h y x
 |26,_,_,y,x=>exact dc26 h y x
 |27,_,_,y,x=>exact dc27 h y x
 |28,_,_,y,x=>exact dc28 h y x
 |29,_,_,y,x=>exact dc29 h y x
 |30,_,_,y,x=>exact dc30 h y x
 |31,_,_,y,x=>exact dc31 h y x
 |32,_,_,y,x=>exact dc32 h y x
 |33,_,_,y,x=>exact dc33 h y x
 |34,_,_,y,x=>exact dc34 h y x
 |35,_,_,y,x=>exact dc35 h y x
 |36,_,_,y,x=>exact dc36 h y x
 |37,_,_,y,x=>exact dc37 h y x
 |38,_,_,y,x=>exact dc38 h y x
 |39,_,_,y,x=>exact dc39 h y x
 |n+40,_,z,_,_=>omega
end
end
section
open Go.RowKit Mc Go.ChangeMaps
def Jd:Nat→Nat
 |0=>1
 |1=>39
 |2=>40
 |3=>5
 |4=>6
 |5=>7
 |6=>8
 |7=>9
 |8=>10
 |9=>11
 |10=>12
 |11=>13
 |12=>14
 |13=>15
 |14=>16
 |15=>17
 |16=>18
 |17=>19
 |18=>20
 |19=>21
 |20=>25
 |21=>26
 |22=>27
 |23=>28
 |24=>22
 |25=>23
 |26=>24
 |27=>29
 |28=>30
 |29=>31
 |30=>32
 |31=>33
 |32=>34
 |33=>35
 |34=>36
 |_=>41
def nc:Nat→Fn×Option (TypeId×Fn)
 |0=>(.func 102,none)
 |1=>(.func 103,none)
 |2=>(.func 224,some (117,.func 105))
 |3=>(.func 225,some (74,.func 107))
 |4=>(.func 225,some (74,.func 108))
 |5=>(.func 225,some (74,.func 109))
 |6=>(.func 225,some (74,.func 110))
 |7=>(.func 224,some (117,.func 112))
 |8=>(.func 224,some (117,.func 113))
 |9=>(.func 225,some (74,.func 114))
 |10=>(.func 225,some (74,.func 115))
 |11=>(.func 224,some (117,.func 116))
 |12=>(.func 224,some (117,.func 118))
 |13=>(.func 119,none)
 |14=>(.func 225,some (74,.func 120))
 |15=>(.func 225,some (74,.func 122))
 |16=>(.func 225,some (74,.func 123))
 |17=>(.func 224,some (117,.func 124))
 |18=>(.func 225,some (74,.func 125))
 |19=>(.func 225,some (74,.func 126))
 |20=>(.func 127,none)
 |21=>(.func 129,none)
 |22=>(.func 131,none)
 |23=>(.func 132,none)
 |24=>(.func 133,none)
 |25=>(.func 135,none)
 |26=>(.func 136,none)
 |27=>(.func 137,none)
 |28=>(.func 139,none)
 |29=>(.func 140,none)
 |30=>(.func 142,none)
 |31=>(.func 144,none)
 |32=>(.func 146,none)
 |33=>(.func 148,none)
 |34=>(.func 149,none)
 |_=>(.func 151,none)
def kO (bs:Nat→Nat)(i:Nat):Value:=.func (nc i).1 #[] (match (nc i).2 with|some _=>#[.pointer (some ⟨bs i,0,none⟩)]|none=>#[])
def Wb (bs:Nat→Nat)(n:Nat):List MapEntry:=(List.range n).map fun i=>⟨Aj (Jd i:Int),kO bs i,i⟩
def DoBox (w:World)(O:Nat→Prop)(bs:Nat→Nat)(i:Nat):Prop:=match (nc i).2 with|some (t,f)=>O (bs i)∧aH w (bs i) t #[.func f #[] #[]]|none=>True
theorem Vz:∀i,i<36→∀j,j<i→Jd i≠Jd j:=by decide
theorem Wa:∀k:Nat,k<43→(Sr.cS (k:Int)).2=true→k≠42→∃i,i<36∧Jd i=k:=by decide
def iV (w0:World)(n:Nat)(W:World):Prop :=
 ∃bs,W.heap[w0.heap.size]?=some (.map (Wb bs n).toArray n)∧(∀i,i<n→DoBox W (fun k=>w0.heap.size<k∧k<W.heap.size) bs i)∧Below w0.heap.size w0 W
theorem Zcw (bs:Nat→Nat)(n:Nat):Wb bs (n+1)=Wb bs n++[⟨Aj (Jd n:Int),kO bs n,n⟩]:=by
 unfold Wb;rw[od,oq];rfl
theorem Yl {bs bs':Nat→Nat}{n:Nat}(h:∀i,i<n→bs i=bs' i):Wb bs n=Wb bs' n:=by
 unfold Wb;refine pE fun i hi=>?_
 have:=List.mem_range.1 hi;unfold kO;rw[h i this]
theorem Zcx {bs:Nat→Nat}{n:Nat}(y:n<36):∀e∈(Wb bs n),∃b,e.key=Aj b∧(Jd n:Int)≠b:=by
 intro e x;unfold Wb at x;obtain⟨i,hi,rfl⟩:=List.mem_map.1 x;have:=List.mem_range.1 hi;exact⟨_,rfl,by have:=Vz n y i this;omega⟩
theorem DoBox.aQ {W W':World}{O O':Nat→Prop}{bs bs':Nat→Nat}{i:Nat}(h:DoBox W O bs i)(x:bs i=bs' i)(y:∀g t cs,aH W g t cs→O g→aH W' g t cs)(z:∀k,O k→O' k):DoBox W' O' bs' i:=by
 unfold DoBox at h ⊢;split at h
 ·exact⟨z _ (x ▸ h.1),y _ _ _ (x ▸ h.2) (x ▸ h.1)⟩
 ·trivial
theorem iV.add {w0 W:World}{n:Nat}(h:iV w0 n W)(c:n<36)(v:Value)(b:Nat) (d:v=kO (fun _=>b) n) (a:DoBox W (fun k=>w0.heap.size<k∧k<W.heap.size) (fun _=>b) n) :
  ∃es,W.heap[w0.heap.size]?=some (.map es n)∧(∀e∈es.toList,∃b,e.key=Aj b∧(Jd n:Int)≠b)∧iV w0 (n+1) (setBlock W w0.heap.size (.map (es.push ⟨Aj (Jd n:Int),v,n⟩) (n+1))):=by
 obtain⟨bs,y,s,x⟩:=h;have r:w0.heap.size<W.heap.size:=(bO.1 y).1;refine⟨_,y,Zcx c,fun i=>if i=n then b else bs i,?_,?_,?_⟩
 ·simp only[setBlock];rw[Eb r,Zcw,Yl (bs:=fun i=>if i=n then b else bs i) (bs':=bs) (fun i hi=>by rw[if_neg (by omega)])];subst d;unfold kO;simp
 ·intro i hi;have q:∀k,(w0.heap.size<k∧k<W.heap.size)→(w0.heap.size<k∧k<(setBlock W w0.heap.size (.map ((Wb bs n).toArray.push ⟨Aj (Jd n:Int),v,n⟩) (n+1))).heap.size):=fun k u=>by simpa [setBlock]using u
  by_cases p:i=n
  ·subst p;exact a.aQ (by simp) (fun g t cs z _=>Hc y z) q
  ·exact(s i (by omega)).aQ (by rw[if_neg p]) (fun g t cs z _=>Hc y z) q
 ·exact⟨x.os,x.tape,x.output,by simpa [setBlock]using x.size,fun k u=>by
   simp only[setBlock];rw[Ax (by omega)];exact x.block k u⟩
theorem iV.lt {w0 W:World}{n:Nat}(h:iV w0 n W):w0.heap.size<W.heap.size:=by
 obtain⟨bs,x,_⟩:=h;exact(bO.1 x).1
theorem iV.alloc {w0 W:World}{n:Nat}(h:iV w0 n W)(o:Obj):iV w0 n (W.alloc o):=by
 have y:=h.lt;obtain⟨bs,v,z,p⟩:=h;exact⟨bs,(pq W o _ y).trans v,fun i a=>(z i a).aQ rfl (fun g t cs u _=>u.alloc o) (fun k x=>⟨x.1,by have:=x.2;simp;omega⟩),p.alloc (by omega) o⟩
theorem Qg {ops:Array Oper}{rest:List Oper}{o:Oper}{a:Act}{Q:Exit→Act→World→Prop}(w0 W:World)(n:Nat)(g:n<36)(z:o.guard=none)(m k x:Operand)(c:o.op=.insert 158 m k x)(p:o.dst=none)
  (i:a.eval m=.map (some w0.heap.size)) (d:a.eval k=Aj (Jd n:Int)) (v:Value) (f:a.eval x=v) (b:Nat) (y:iV w0 n W) (j:v=kO (fun _=>b) n) (q:DoBox W (fun k=>w0.heap.size<k∧k<W.heap.size) (fun _=>b) n)
  (h:∀W',iV w0 (n+1) W'→wpList Tryz.prog ops Q rest a W'):wpList Tryz.prog ops Q (o::rest) a W:=by
 refine wpList_plain z fun H l=>?_
 obtain⟨es,s,u,e⟩:=y.add g v b j q;have r:=h _ e;generalize (Jd n:Int)=X at *;unfold Oper.wp;simp only[execOp,c,i,d,f];simp[Jg (P:=Tryz.prog) (w:=W) Tryz.underlying158 Tryz.underlying3 s (v:=v) u,Result.andThen];unfold Oper.upon;exact l _ _ (by rw[p];exact r)
theorem iV.start (w:World):iV w 0 (w.alloc (.map #[] 0)) :=
 ⟨fun _=>0,heap_alloc_new w _,fun i x=>by omega,aI.alloc Aw _⟩
def DoB (w0:World)(n b:Nat)(t:TypeId)(f:Fn)(W:World):Prop:=iV w0 n W∧(w0.heap.size<b∧b<W.heap.size)∧aH W b t #[.func f #[] #[]]
theorem iV.box {w0 W:World}{n:Nat}(h:iV w0 n W)(f:Fn)(t:TypeId):DoB w0 n W.heap.size t f (W.alloc (.cells #[.func f #[] #[]] t)) :=
 ⟨h.alloc _,⟨h.lt,by simp⟩,qG _ _ _⟩
theorem Zik {w0 W:World}{n:Nat}(h:iV w0 n W)(f:Fn):Calls Tryz.prog 106 #[.func f #[] #[]] W fun e w'=>e=.returned (.func (.func 225) #[] #[.pointer (some ⟨W.heap.size,0,none⟩)])∧DoB w0 n W.heap.size 74 f w':=by
 have x:=Aq (h.box f 74);clear h;go_enter Tryz.func106,Tryz.ntmps106;go_wp2;go_ret;exact⟨rfl,x.o⟩
theorem Zjv {w0 W:World}{n:Nat}(h:iV w0 n W)(f:Fn):Calls Tryz.prog 104 #[.func f #[] #[]] W fun e w'=>e=.returned (.func (.func 224) #[] #[.pointer (some ⟨W.heap.size,0,none⟩)])∧DoB w0 n W.heap.size 117 f w':=by
 have x:=Aq (h.box f 117);clear h;go_enter Tryz.func104,Tryz.ntmps104;go_wp2;go_ret;exact⟨rfl,x.o⟩
attribute [local go_sem] Mh
theorem Yk (w:World):Calls Tryz.prog 73 #[] w fun e w'=>e=.returned (.map (some w.heap.size))∧iV w 36 w':=by
 go_enter Tryz.func73,Tryz.ntmps73;have x:=Aq (iV.start w);go_wp2_with (first
  | (refine Qg _ _ _ (by decide) rfl _ _ _ rfl rfl rfl rfl _ rfl 0 x.o rfl trivial ?_;intro W z;clear x;have x:=Aq z;clear z)
  | (refine Qg _ _ _ (by decide) rfl _ _ _ rfl rfl rfl rfl _ rfl _ x.o.1 rfl x.o.2 ?_;intro W z;clear x;have x:=Aq z;clear z)
  | (go_at_call 106;refine(Zik x.o _).mono ?_;rintro e u⟨rfl,y⟩;clear x;have x:=Aq y;clear y)
  | (go_at_call 104;refine(Zjv x.o _).mono ?_;rintro e u⟨rfl,y⟩;clear x;have x:=Aq y;clear y))
 go_ret;exact⟨rfl,x.o⟩
theorem do34 (w:World)(sb:Nat)(L:bN)(s:Sr.St)(h:ar w sb L s)(op n d a b:Int):Calls Tryz.prog 146 #[.pointer (some ⟨sb,0,none⟩),Ff ⟨op,d,a,b,n⟩] w (bB w sb L { s with m:=Nq s.m (n % 2) }):=by
 unfold Ff;have z:=Aq (fun o:Obj=>Xf (w.alloc o) sb L s (h.alloc o) (n % 2) (by omega));have y:=Aq (fun o:Obj=>(qF (eY L sb) w).alloc o);clear h;go_enter Tryz.func146,Tryz.ntmps146;go_wp2_with fail
 refine(Jv _ 2 _ (by decide) (by decide)).mono ?_;rintro e w1⟨rfl,rfl⟩;go_wp2_with fail
 refine(z.o _).mono ?_;intro e v x;have u:=Aq (x.bQ (y.o _));obtain⟨rfl,_⟩:=x;go_wp2;go_end0;exact u.o
structure Sr.bE.Can (r:Sr.bE) (s:Sr.St):Prop where
 d:(Sr.cS r.op).1 % 2=1→∃d:Nat,r.d=d∧d<64
 a:(Sr.cS r.op).1 / 2 % 2=1→∃a:Nat,r.a=a∧a<64
 b:(Sr.cS r.op).1 / 4 % 2=1→∃b:Nat,r.b=b∧b<64
 n:Sr.cP r.op=true→∃n:Nat,r.n=n∧s.pc+n≤1000000
def Dl (w:World)(sb:Nat)(L:bN)(s:Sr.St)(i:Nat)(r:Sr.bE)(bs:Nat→Nat):Prop :=
 ∃id,(nc i).1=.func id∧(∀args w,Sem.run Tryz.prog (callFunc id args) w=.ok (.enter id args) w) ∧
  Calls Tryz.prog id (match (nc i).2 with|some _=>#[.pointer (some ⟨sb,0,none⟩),Ff r,.pointer (some ⟨bs i,0,none⟩)]|none=>#[.pointer (some ⟨sb,0,none⟩),Ff r]) w (bB w sb L (Sr.deed r s))
section
variable {w : World} {sb : Nat} {L : bN} {s : Sr.St} {r : Sr.bE} {bs : Nat → Nat} {O : Nat → Prop}
theorem dk1 (h:ar w sb L s)(x:r.op=1)(u:r.Can s)(_hb:DoBox w O bs 0):Dl w sb L s 0 r bs:=by
 obtain⟨op,d,a,b,n⟩:=r;simp only at x;subst x;obtain⟨z,e,y⟩:=u.d rfl;simp only at e;subst e;refine⟨_,rfl,(Bn Tryz.func102 (by kernel_rfl) rfl),?_⟩;exact do1 w sb L s h _ n a b z y
theorem dk39 (h:ar w sb L s)(x:r.op=39)(u:r.Can s)(_hb:DoBox w O bs 1):Dl w sb L s 1 r bs:=by
 obtain⟨op,d,a,b,n⟩:=r;simp only at x;subst x;obtain⟨z,e,y⟩:=u.d rfl;simp only at e;subst e;refine⟨_,rfl,(Bn Tryz.func103 (by kernel_rfl) rfl),?_⟩;exact do39 w sb L s h _ n a b z y
theorem dk40 (h:ar w sb L s)(x:r.op=40)(y:r.Can s)(p:DoBox w O bs 2):Dl w sb L s 2 r bs:=by
 obtain⟨op,d,a,b,n⟩:=r;simp only at x;subst x;obtain⟨k,e,z⟩:=y.d rfl;simp only at e;subst e;obtain⟨v,e,u⟩:=y.a rfl;simp only at e;subst e;refine⟨_,rfl,(Bn Tryz.func224 (by kernel_rfl) rfl),?_⟩;exact Iw w sb L s h _ n k v b z u (bs 2) _ p.2 _ (Bn Tryz.func105 (by kernel_rfl) rfl) (fun w=>s40 _ w)
theorem dk5 (h:ar w sb L s)(y:r.op=5)(x:r.Can s)(p:DoBox w O bs 3):Dl w sb L s 3 r bs:=by
 obtain⟨op,d,a,b,n⟩:=r;simp only at y;subst y;obtain⟨c,e,v⟩:=x.d rfl;simp only at e;subst e;obtain⟨q,e,u⟩:=x.a rfl;simp only at e;subst e;obtain⟨k,e,z⟩:=x.b rfl;simp only at e;subst e;refine⟨_,rfl,(Bn Tryz.func225 (by kernel_rfl) rfl),?_⟩;exact Fi w sb L s h _ n c q k v u z (bs 3) _ p.2 _ (Bn Tryz.func107 (by kernel_rfl) rfl) (fun w=>s5 _ _ w (h.rk u) (h.rk z))
theorem dk6 (h:ar w sb L s)(y:r.op=6)(x:r.Can s)(p:DoBox w O bs 4):Dl w sb L s 4 r bs:=by
 obtain⟨op,d,a,b,n⟩:=r;simp only at y;subst y;obtain⟨c,e,v⟩:=x.d rfl;simp only at e;subst e;obtain⟨q,e,u⟩:=x.a rfl;simp only at e;subst e;obtain⟨k,e,z⟩:=x.b rfl;simp only at e;subst e;refine⟨_,rfl,(Bn Tryz.func225 (by kernel_rfl) rfl),?_⟩;exact Fi w sb L s h _ n c q k v u z (bs 4) _ p.2 _ (Bn Tryz.func108 (by kernel_rfl) rfl) (fun w=>s6 _ _ w (h.rk u) (h.rk z))
theorem dk7 (h:ar w sb L s)(y:r.op=7)(x:r.Can s)(p:DoBox w O bs 5):Dl w sb L s 5 r bs:=by
 obtain⟨op,d,a,b,n⟩:=r;simp only at y;subst y;obtain⟨c,e,v⟩:=x.d rfl;simp only at e;subst e;obtain⟨q,e,u⟩:=x.a rfl;simp only at e;subst e;obtain⟨k,e,z⟩:=x.b rfl;simp only at e;subst e;refine⟨_,rfl,(Bn Tryz.func225 (by kernel_rfl) rfl),?_⟩;exact Fi w sb L s h _ n c q k v u z (bs 5) _ p.2 _ (Bn Tryz.func109 (by kernel_rfl) rfl) (fun w=>s7 _ _ w (h.rk u) (h.rk z))
theorem dk8 (h:ar w sb L s)(y:r.op=8)(x:r.Can s)(p:DoBox w O bs 6):Dl w sb L s 6 r bs:=by
 obtain⟨op,d,a,b,n⟩:=r;simp only at y;subst y;obtain⟨c,e,v⟩:=x.d rfl;simp only at e;subst e;obtain⟨q,e,u⟩:=x.a rfl;simp only at e;subst e;obtain⟨k,e,z⟩:=x.b rfl;simp only at e;subst e;refine⟨_,rfl,(Bn Tryz.func225 (by kernel_rfl) rfl),?_⟩;exact Fi w sb L s h _ n c q k v u z (bs 6) _ p.2 _ (Bn Tryz.func110 (by kernel_rfl) rfl) (fun w=>s8 _ _ w (h.rk u) (h.rk z))
theorem dk9 (h:ar w sb L s)(y:r.op=9)(z:r.Can s)(p:DoBox w O bs 7):Dl w sb L s 7 r bs:=by
 obtain⟨op,d,a,b,n⟩:=r;simp only at y;subst y;obtain⟨k,e,u⟩:=z.d rfl;simp only at e;subst e;obtain⟨v,e,x⟩:=z.a rfl;simp only at e;subst e;refine⟨_,rfl,(Bn Tryz.func224 (by kernel_rfl) rfl),?_⟩;exact Iw w sb L s h _ n k v b u x (bs 7) _ p.2 _ (Bn Tryz.func112 (by kernel_rfl) rfl) (fun w=>s9 _ w (h.rk x))
theorem dk10 (h:ar w sb L s)(y:r.op=10)(z:r.Can s)(p:DoBox w O bs 8):Dl w sb L s 8 r bs:=by
 obtain⟨op,d,a,b,n⟩:=r;simp only at y;subst y;obtain⟨k,e,u⟩:=z.d rfl;simp only at e;subst e;obtain⟨v,e,x⟩:=z.a rfl;simp only at e;subst e;refine⟨_,rfl,(Bn Tryz.func224 (by kernel_rfl) rfl),?_⟩;exact Iw w sb L s h _ n k v b u x (bs 8) _ p.2 _ (Bn Tryz.func113 (by kernel_rfl) rfl) (fun w=>s10 _ w (h.rk x))
theorem dk11 (h:ar w sb L s)(y:r.op=11)(x:r.Can s)(p:DoBox w O bs 9):Dl w sb L s 9 r bs:=by
 obtain⟨op,d,a,b,n⟩:=r;simp only at y;subst y;obtain⟨c,e,v⟩:=x.d rfl;simp only at e;subst e;obtain⟨q,e,u⟩:=x.a rfl;simp only at e;subst e;obtain⟨k,e,z⟩:=x.b rfl;simp only at e;subst e;refine⟨_,rfl,(Bn Tryz.func225 (by kernel_rfl) rfl),?_⟩;exact Fi w sb L s h _ n c q k v u z (bs 9) _ p.2 _ (Bn Tryz.func114 (by kernel_rfl) rfl) (fun w=>s11 _ _ w (h.rk u) (h.rk z))
theorem dk12 (h:ar w sb L s)(y:r.op=12)(x:r.Can s)(p:DoBox w O bs 10):Dl w sb L s 10 r bs:=by
 obtain⟨op,d,a,b,n⟩:=r;simp only at y;subst y;obtain⟨c,e,v⟩:=x.d rfl;simp only at e;subst e;obtain⟨q,e,u⟩:=x.a rfl;simp only at e;subst e;obtain⟨k,e,z⟩:=x.b rfl;simp only at e;subst e;refine⟨_,rfl,(Bn Tryz.func225 (by kernel_rfl) rfl),?_⟩;exact Fi w sb L s h _ n c q k v u z (bs 10) _ p.2 _ (Bn Tryz.func115 (by kernel_rfl) rfl) (fun w=>s12 _ _ w (h.rk u) (h.rk z))
theorem dk13 (h:ar w sb L s)(y:r.op=13)(z:r.Can s)(p:DoBox w O bs 11):Dl w sb L s 11 r bs:=by
 obtain⟨op,d,a,b,n⟩:=r;simp only at y;subst y;obtain⟨k,e,u⟩:=z.d rfl;simp only at e;subst e;obtain⟨v,e,x⟩:=z.a rfl;simp only at e;subst e;refine⟨_,rfl,(Bn Tryz.func224 (by kernel_rfl) rfl),?_⟩;exact Iw w sb L s h _ n k v b u x (bs 11) _ p.2 _ (Bn Tryz.func116 (by kernel_rfl) rfl) (fun w=>s13 _ w (h.rk x))
theorem dk14 (h:ar w sb L s)(y:r.op=14)(z:r.Can s)(p:DoBox w O bs 12):Dl w sb L s 12 r bs:=by
 obtain⟨op,d,a,b,n⟩:=r;simp only at y;subst y;obtain⟨k,e,u⟩:=z.d rfl;simp only at e;subst e;obtain⟨v,e,x⟩:=z.a rfl;simp only at e;subst e;refine⟨_,rfl,(Bn Tryz.func224 (by kernel_rfl) rfl),?_⟩;exact Iw w sb L s h _ n k v b u x (bs 12) _ p.2 _ (Bn Tryz.func118 (by kernel_rfl) rfl) (fun w=>s14 _ w (h.rk x))
theorem dk15 (h:ar w sb L s)(x:r.op=15)(y:r.Can s)(_hb:DoBox w O bs 13):Dl w sb L s 13 r bs:=by
 obtain⟨op,d,a,b,n⟩:=r;simp only at x;subst x;obtain⟨k,e,z⟩:=y.d rfl;simp only at e;subst e;obtain⟨v,e,u⟩:=y.a rfl;simp only at e;subst e;refine⟨_,rfl,(Bn Tryz.func119 (by kernel_rfl) rfl),?_⟩;exact do15 w sb L s h _ n b k v z u
theorem dk16 (h:ar w sb L s)(y:r.op=16)(x:r.Can s)(p:DoBox w O bs 14):Dl w sb L s 14 r bs:=by
 obtain⟨op,d,a,b,n⟩:=r;simp only at y;subst y;obtain⟨c,e,v⟩:=x.d rfl;simp only at e;subst e;obtain⟨q,e,u⟩:=x.a rfl;simp only at e;subst e;obtain⟨k,e,z⟩:=x.b rfl;simp only at e;subst e;refine⟨_,rfl,(Bn Tryz.func225 (by kernel_rfl) rfl),?_⟩;exact Fi w sb L s h _ n c q k v u z (bs 14) _ p.2 _ (Bn Tryz.func120 (by kernel_rfl) rfl) (fun w=>s16 _ _ w (h.rk u) (h.rk z))
theorem dk17 (h:ar w sb L s)(y:r.op=17)(x:r.Can s)(p:DoBox w O bs 15):Dl w sb L s 15 r bs:=by
 obtain⟨op,d,a,b,n⟩:=r;simp only at y;subst y;obtain⟨c,e,v⟩:=x.d rfl;simp only at e;subst e;obtain⟨q,e,u⟩:=x.a rfl;simp only at e;subst e;obtain⟨k,e,z⟩:=x.b rfl;simp only at e;subst e;refine⟨_,rfl,(Bn Tryz.func225 (by kernel_rfl) rfl),?_⟩;exact Fi w sb L s h _ n c q k v u z (bs 15) _ p.2 _ (Bn Tryz.func122 (by kernel_rfl) rfl) (fun w=>s17 _ _ w (h.rk u) (h.rk z))
theorem dk18 (h:ar w sb L s)(y:r.op=18)(x:r.Can s)(p:DoBox w O bs 16):Dl w sb L s 16 r bs:=by
 obtain⟨op,d,a,b,n⟩:=r;simp only at y;subst y;obtain⟨c,e,v⟩:=x.d rfl;simp only at e;subst e;obtain⟨q,e,u⟩:=x.a rfl;simp only at e;subst e;obtain⟨k,e,z⟩:=x.b rfl;simp only at e;subst e;refine⟨_,rfl,(Bn Tryz.func225 (by kernel_rfl) rfl),?_⟩;exact Fi w sb L s h _ n c q k v u z (bs 16) _ p.2 _ (Bn Tryz.func123 (by kernel_rfl) rfl) (fun w=>s18 _ _ w (h.rk u) (h.rk z))
theorem dk19 (h:ar w sb L s)(y:r.op=19)(z:r.Can s)(p:DoBox w O bs 17):Dl w sb L s 17 r bs:=by
 obtain⟨op,d,a,b,n⟩:=r;simp only at y;subst y;obtain⟨k,e,u⟩:=z.d rfl;simp only at e;subst e;obtain⟨v,e,x⟩:=z.a rfl;simp only at e;subst e;refine⟨_,rfl,(Bn Tryz.func224 (by kernel_rfl) rfl),?_⟩;exact Iw w sb L s h _ n k v b u x (bs 17) _ p.2 _ (Bn Tryz.func124 (by kernel_rfl) rfl) (fun w=>s19 _ w (h.rk x))
theorem dk20 (h:ar w sb L s)(y:r.op=20)(x:r.Can s)(p:DoBox w O bs 18):Dl w sb L s 18 r bs:=by
 obtain⟨op,d,a,b,n⟩:=r;simp only at y;subst y;obtain⟨c,e,v⟩:=x.d rfl;simp only at e;subst e;obtain⟨q,e,u⟩:=x.a rfl;simp only at e;subst e;obtain⟨k,e,z⟩:=x.b rfl;simp only at e;subst e;refine⟨_,rfl,(Bn Tryz.func225 (by kernel_rfl) rfl),?_⟩;exact Fi w sb L s h _ n c q k v u z (bs 18) _ p.2 _ (Bn Tryz.func125 (by kernel_rfl) rfl) (fun w=>s20 _ _ w (h.rk u) (h.rk z))
theorem dk21 (h:ar w sb L s)(y:r.op=21)(x:r.Can s)(p:DoBox w O bs 19):Dl w sb L s 19 r bs:=by
 obtain⟨op,d,a,b,n⟩:=r;simp only at y;subst y;obtain⟨c,e,v⟩:=x.d rfl;simp only at e;subst e;obtain⟨q,e,u⟩:=x.a rfl;simp only at e;subst e;obtain⟨k,e,z⟩:=x.b rfl;simp only at e;subst e;refine⟨_,rfl,(Bn Tryz.func225 (by kernel_rfl) rfl),?_⟩;exact Fi w sb L s h _ n c q k v u z (bs 19) _ p.2 _ (Bn Tryz.func126 (by kernel_rfl) rfl) (fun w=>s21 _ _ w (h.rk u) (h.rk z))
theorem dk25 (h:ar w sb L s)(x:r.op=25)(y:r.Can s)(_hb:DoBox w O bs 20):Dl w sb L s 20 r bs:=by
 obtain⟨op,d,a,b,n⟩:=r;simp only at x;subst x;obtain⟨k,e,z⟩:=y.d rfl;simp only at e;subst e;obtain⟨v,e,u⟩:=y.a rfl;simp only at e;subst e;refine⟨_,rfl,(Bn Tryz.func127 (by kernel_rfl) rfl),?_⟩;exact do25 w sb L s h _ n b k v z u
theorem dk26 (h:ar w sb L s)(x:r.op=26)(y:r.Can s)(_hb:DoBox w O bs 21):Dl w sb L s 21 r bs:=by
 obtain⟨op,d,a,b,n⟩:=r;simp only at x;subst x;obtain⟨v,e,u⟩:=y.a rfl;simp only at e;subst e;obtain⟨k,e,z⟩:=y.b rfl;simp only at e;subst e;refine⟨_,rfl,(Bn Tryz.func129 (by kernel_rfl) rfl),?_⟩;exact do26 w sb L s h _ n d v k u z
theorem dk27 (h:ar w sb L s)(x:r.op=27)(y:r.Can s)(_hb:DoBox w O bs 22):Dl w sb L s 22 r bs:=by
 obtain⟨op,d,a,b,n⟩:=r;simp only at x;subst x;obtain⟨k,e,z⟩:=y.d rfl;simp only at e;subst e;obtain⟨v,e,u⟩:=y.a rfl;simp only at e;subst e;refine⟨_,rfl,(Bn Tryz.func131 (by kernel_rfl) rfl),?_⟩;exact do27 w sb L s h _ n b k v z u
theorem dk28 (h:ar w sb L s)(x:r.op=28)(y:r.Can s)(_hb:DoBox w O bs 23):Dl w sb L s 23 r bs:=by
 obtain⟨op,d,a,b,n⟩:=r;simp only at x;subst x;obtain⟨v,e,u⟩:=y.a rfl;simp only at e;subst e;obtain⟨k,e,z⟩:=y.b rfl;simp only at e;subst e;refine⟨_,rfl,(Bn Tryz.func132 (by kernel_rfl) rfl),?_⟩;exact do28 w sb L s h _ n d v k u z
theorem dk22 (h:ar w sb L s)(x:r.op=22)(y:r.Can s)(_hb:DoBox w O bs 24):Dl w sb L s 24 r bs:=by
 obtain⟨op,d,a,b,n⟩:=r;simp only at x;subst x;refine⟨_,rfl,(Bn Tryz.func133 (by kernel_rfl) rfl),?_⟩;exact do22 w sb L s h _ n d a b
theorem dk23 (h:ar w sb L s)(x:r.op=23)(y:r.Can s)(_hb:DoBox w O bs 25):Dl w sb L s 25 r bs:=by
 obtain⟨op,d,a,b,n⟩:=r;simp only at x;subst x;refine⟨_,rfl,(Bn Tryz.func135 (by kernel_rfl) rfl),?_⟩;exact do23 w sb L s h _ n d a b
theorem dk24 (h:ar w sb L s)(x:r.op=24)(y:r.Can s)(_hb:DoBox w O bs 26):Dl w sb L s 26 r bs:=by
 obtain⟨op,d,a,b,n⟩:=r;simp only at x;subst x;refine⟨_,rfl,(Bn Tryz.func136 (by kernel_rfl) rfl),?_⟩;exact do24 w sb L s h _ n d a b
theorem dk29 (h:ar w sb L s)(x:r.op=29)(y:r.Can s)(_hb:DoBox w O bs 27):Dl w sb L s 27 r bs:=by
 obtain⟨op,d,a,b,n⟩:=r;simp only at x;subst x;obtain⟨k,e,z⟩:=y.d rfl;simp only at e;subst e;obtain⟨v,e,u⟩:=y.a rfl;simp only at e;subst e;refine⟨_,rfl,(Bn Tryz.func137 (by kernel_rfl) rfl),?_⟩;exact do29 w sb L s h _ n b k v z u
theorem dk30 (h:ar w sb L s)(x:r.op=30)(y:r.Can s)(_hb:DoBox w O bs 28):Dl w sb L s 28 r bs:=by
 obtain⟨op,d,a,b,n⟩:=r;simp only at x;subst x;obtain⟨k,e,z⟩:=y.d rfl;simp only at e;subst e;obtain⟨v,e,u⟩:=y.a rfl;simp only at e;subst e;refine⟨_,rfl,(Bn Tryz.func139 (by kernel_rfl) rfl),?_⟩;exact do30 w sb L s h _ n b k v z u
theorem dk31 (h:ar w sb L s)(x:r.op=31)(y:r.Can s)(_hb:DoBox w O bs 29):Dl w sb L s 29 r bs:=by
 obtain⟨op,d,a,b,n⟩:=r;simp only at x;subst x;obtain⟨v,e,u⟩:=y.a rfl;simp only at e;subst e;obtain⟨k,e,z⟩:=y.b rfl;simp only at e;subst e;refine⟨_,rfl,(Bn Tryz.func140 (by kernel_rfl) rfl),?_⟩;exact do31 w sb L s h _ n d v k u z
theorem dk32 (h:ar w sb L s)(x:r.op=32)(y:r.Can s)(_hb:DoBox w O bs 30):Dl w sb L s 30 r bs:=by
 obtain⟨op,d,a,b,n⟩:=r;simp only at x;subst x;obtain⟨v,e,u⟩:=y.a rfl;simp only at e;subst e;obtain⟨k,e,z⟩:=y.b rfl;simp only at e;subst e;refine⟨_,rfl,(Bn Tryz.func142 (by kernel_rfl) rfl),?_⟩;exact do32 w sb L s h _ n d v k u z
theorem dk33 (h:ar w sb L s)(x:r.op=33)(y:r.Can s)(_hb:DoBox w O bs 31):Dl w sb L s 31 r bs:=by
 obtain⟨op,d,a,b,n⟩:=r;simp only at x;subst x;obtain⟨v,e,u⟩:=y.a rfl;simp only at e;subst e;obtain⟨k,e,z⟩:=y.b rfl;simp only at e;subst e;refine⟨_,rfl,(Bn Tryz.func144 (by kernel_rfl) rfl),?_⟩;exact do33 w sb L s h _ n d v k u z
theorem dk34 (h:ar w sb L s)(x:r.op=34)(y:r.Can s)(_hb:DoBox w O bs 32):Dl w sb L s 32 r bs:=by
 obtain⟨op,d,a,b,n⟩:=r;simp only at x;subst x;refine⟨_,rfl,(Bn Tryz.func146 (by kernel_rfl) rfl),?_⟩;exact do34 w sb L s h _ n d a b
theorem dk35 (h:ar w sb L s)(x:r.op=35)(y:r.Can s)(_hb:DoBox w O bs 33):Dl w sb L s 33 r bs:=by
 obtain⟨op,d,a,b,n⟩:=r;simp only at x;subst x;obtain⟨n',e,z⟩:=y.n rfl;simp only at e;subst e;refine⟨_,rfl,(Bn Tryz.func148 (by kernel_rfl) rfl),?_⟩;exact do35 w sb L s h _ d a b n' z
theorem dk36 (h:ar w sb L s)(x:r.op=36)(y:r.Can s)(_hb:DoBox w O bs 34):Dl w sb L s 34 r bs:=by
 obtain⟨op,d,a,b,n⟩:=r;simp only at x;subst x;obtain⟨u,e,z⟩:=y.a rfl;simp only at e;subst e;obtain⟨n',e,v⟩:=y.n rfl;simp only at e;subst e;refine⟨_,rfl,(Bn Tryz.func149 (by kernel_rfl) rfl),?_⟩;exact do36 w sb L s h _ d b u n' z v
theorem dk41 (h:ar w sb L s)(x:r.op=41)(y:r.Can s)(_hb:DoBox w O bs 35):Dl w sb L s 35 r bs:=by
 obtain⟨op,d,a,b,n⟩:=r;simp only at x;subst x;obtain⟨u,e,z⟩:=y.a rfl;simp only at e;subst e;obtain⟨n',e,v⟩:=y.n rfl;simp only at e;subst e;refine⟨_,rfl,(Bn Tryz.func151 (by kernel_rfl) rfl),?_⟩;exact do41 w sb L s h _ d b u n' z v
theorem Zhq (h:ar w sb L s){i:Nat}(hi:i<36)(x:r.op=Jd i)(z:r.Can s)(y:DoBox w O bs i):Dl w sb L s i r bs:=by
 match i,hi,x,y with
 |0,_,x,y=>exact dk1 h x z y
 |1,_,x,y=>exact dk39 h x z y
 |2,_,x,y=>exact dk40 h x z y
 |3,_,x,y=>exact dk5 h x z y
 |4,_,x,y=>exact dk6 h x z y
 |5,_,x,y=>exact dk7 h x z y
 |6,_,x,y=>exact dk8 h x z y
 |7,_,x,y=>exact dk9 h x z y
 |8,_,x,y=>exact dk10 h x z y
 |9,_,x,y=>exact dk11 h x z y
 |10,_,x,y=>exact dk12 h x z y
 |11,_,x,y=>exact dk13 h x z y
 |12,_,x,y=>exact dk14 h x z y
 |13,_,x,y=>exact dk15 h x z y
 |14,_,x,y=>exact dk16 h x z y
 |15,_,x,y=>exact dk17 h x z y
 |16,_,x,y=>exact dk18 h x z y
 |17,_,x,y=>exact dk19 h x z y
 |18,_,x,y=>exact dk20 h x z y
 |19,_,x,y=>exact dk21 h x z y
 |20,_,x,y=>exact dk25 h x z y
 |21,_,x,y=>exact dk26 h x z y
 |22,_,x,y=>exact dk27 h x z y
 |23,_,x,y=>exact dk28 h x z y
 |24,_,x,y=>exact dk22 h x z y
 |25,_,x,y=>exact dk23 h x z y
 |26,_,x,y=>exact dk24 h x z y
 |27,_,x,y=>exact dk29 h x z y
 |28,_,x,y=>exact dk30 h x z y
 |29,_,x,y=>exact dk31 h x z y
 |30,_,x,y=>exact dk32 h x z y
 |31,_,x,y=>exact dk33 h x z y
 |32,_,x,y=>exact dk34 h x z y
 |33,_,x,y=>exact dk35 h x z y
 |34,_,x,y=>exact dk36 h x z y
 |35,_,x,y=>exact dk41 h x z y
 |n+36,h2,_,_=>omega
end
end
end Go.Proofs.YtnhebmgibiomnaaGreat

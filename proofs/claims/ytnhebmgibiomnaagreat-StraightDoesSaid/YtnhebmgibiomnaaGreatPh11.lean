import Derived.Deep.LoopGhost
import Derived.Laws.EntriesVeiled
import Derived.Maps.Keyed
import Derived.StillTailTactics
import Derived.Test.YtnhebmgibiomnaaGreatPh10
set_option linter.unusedVariables false
set_option linter.unusedSimpArgs false
set_option maxRecDepth 100000
set_option maxHeartbeats 8000000
namespace Go.Proofs.YtnhebmgibiomnaaGreat
section
open Go.RowKit Mc Go.ChangeMaps
theorem Kw:∀(es:List MapEntry)(x:Int)(i:Nat),(∀e∈es,∃b,e.key=Aj b∧x≠b)→Instr.findNow (.int .i64) (Aj x) es i=some none
 | [],_,_,_=>rfl
 |e::es,x,i,h=>by
  obtain⟨b,y,u⟩:=h e oD;unfold Instr.findNow;rw[y];have:Instr.sameNow (.int .i64) (Aj x) (Aj b)=some false:=by simp[Instr.sameNow,u]
  rw[this];exact Kw es x (i+1) fun z v=>h z (oJ _ v)
theorem Kv:∀(es:List MapEntry)(x:Int)(i j:Nat)(e:MapEntry),es[j]?=some e→e.key=Aj x→(∀y z,y<j→es[y]?=some z→∃b,z.key=Aj b∧x≠b)→Instr.findNow (.int .i64) (Aj x) es i=some (some (i+j,e.val))
 | [],_,_,_,_,h,_,_=>by simp at h
 |e0::es,x,i,0,e,h,hk,_=>by
  simp only[Ay,Bv]at h;subst h;unfold Instr.findNow;rw[hk];have:Instr.sameNow (.int .i64) (Aj x) (Aj x)=some true:=by simp[Instr.sameNow]
  rw[this];rfl
 |e0::es,x,i,j+1,e,h,hk,ho=>by
  obtain⟨b,u,v⟩:=ho 0 e0 (by omega) rfl;simp only[Bc]at h;unfold Instr.findNow;rw[u];have:Instr.sameNow (.int .i64) (Aj x) (Aj b)=some false:=by simp[Instr.sameNow,v]
  rw[this];have:=Kv es x (i+1) j e h hk fun y z p k=>ho (y+1) z (by omega) (by simpa using k)
  rw[show i+(j+1)=i+1+j by omega];exact this
theorem Kx {P:Program}{k:TypeId} (y:P.underlying k=some (.int .i64)) (w:World) (em:Bool) (x:Int):(Instr.checkKey em 10000 k (Aj x)).run P w=.ok () w:=by
 unfold Instr.checkKey;simp[run_underlying y]
theorem Iy {P:Program}{w:World}{t k e:TypeId} (p:P.underlying t=some (.map k e)) (z:P.underlying k=some (.int .i64)) {r:Nat} {es:Array MapEntry} {clock:Nat} (y:w.heap[r]?=some (.map es clock)) {x:Int} {v:Value}
  (u:∀e∈es.toList,∃b,e.key=Aj b∧x≠b):(Instr.mapUpdate t (.map (some r)) (Aj x) v).run P w=.ok () (setBlock w r (.map (es.push ⟨Aj x,v,clock⟩) (clock+1))):=by
 have q:(Instr.findKey k (Aj x) es.toList).run P w=.ok none w:=by
  unfold Instr.findKey;simp[run_underlying z,Kw _ _ _ u]
 simp[Instr.mapUpdate,run_underlying p,MapKept.run_getObj_map y,Kx z,q,MapKept.run_setObj_map _ y,Result.andThen,setBlock]
theorem Jo {P:Program}{w:World}{t k e:TypeId} (c:P.underlying t=some (.map k e)) (z:P.underlying k=some (.int .i64)) {r:Nat} {es:Array MapEntry} {clock:Nat} (a:w.heap[r]?=some (.map es clock)) {x:Int} {j:Nat} {en:MapEntry}
  (p:es.toList[j]?=some en) (s:en.key=Aj x) (v:∀y u,y<j→es.toList[y]?=some u→∃b,u.key=Aj b∧x≠b):(Instr.lookup t (.map (some r)) (Aj x) false).run P w=.ok en.val w:=by
 have q:(Instr.findKey k (Aj x) es.toList).run P w=.ok (some (0+j,en.val)) w:=by
  unfold Instr.findKey;simp[run_underlying z,Kv _ _ 0 _ _ p s v]
 simp[Instr.lookup,run_underlying c,MapKept.run_getObj_map a,Kx z,q,Result.andThen]
theorem Zea (f:Fn)(w:World):Calls Tryz.prog 172 #[.func f #[] #[]] w fun e w'=>e=.returned (.func (.func 250) #[] #[.pointer (some ⟨w.heap.size,0,none⟩)])∧w.alloc (.cells #[.func f #[] #[]] 74)=w':=by
 go_enter Tryz.func172,Tryz.ntmps172;go_wp2;go_ret;exact⟨rfl,rfl⟩
theorem Zfe (f:Fn)(w:World):Calls Tryz.prog 179 #[.func f #[] #[]] w fun e w'=>e=.returned (.func (.func 251) #[] #[.pointer (some ⟨w.heap.size,0,none⟩)])∧w.alloc (.cells #[.func f #[] #[]] 117)=w':=by
 go_enter Tryz.func179,Tryz.ntmps179;go_wp2;go_ret;exact⟨rfl,rfl⟩
def DI (w0:World)(n:Nat)(W:World):Prop :=
 ∃bs,W.heap[w0.heap.size]?=some (.map (Gu bs n).toArray n)∧(∀i,1≤i→i≤n→DeedBox W (fun k=>w0.heap.size<k∧k<W.heap.size) bs i)∧Below w0.heap.size w0 W
theorem Tt (bs:Nat→Nat)(n:Nat):Gu bs (n+1)=Gu bs n++[⟨Aj ((n+1:Nat):Int),Ng bs (n+1),n⟩]:=by
 unfold Gu;rw[ge,nt];rfl
theorem Rf {bs bs':Nat→Nat}{n:Nat}(h:∀i,i≤n→bs i=bs' i):Gu bs n=Gu bs' n:=by
 unfold Gu;refine pm fun i hi=>?_
 have:=List.mem_range.1 hi;unfold Ng;rw[h (i+1) (by omega)]
theorem Tu {bs:Nat→Nat}{n:Nat}{x:Int} (z:(n:Int)<x):∀e∈(Gu bs n),∃b,e.key=Aj b∧x≠b:=by
 intro e y;unfold Gu at y;obtain⟨i,hi,rfl⟩:=List.mem_map.1 y;have:=List.mem_range.1 hi;exact⟨_,rfl,by omega⟩
theorem DeedBox.aQ {W W':World}{O O':Nat→Prop}{bs bs':Nat→Nat}{i:Nat}(h:DeedBox W O bs i)(x:bs i=bs' i)(z:∀g t cs,aH W g t cs→aH W' g t cs)(y:∀k,O k→O' k):DeedBox W' O' bs' i:=by
 unfold DeedBox at h ⊢;split at h
 ·exact⟨y _ (x ▸ h.1),z _ _ _ (x ▸ h.2)⟩
 ·trivial
theorem Gw {W:World}{r:Nat}{es x:Array MapEntry}{c z:Nat} (u:W.heap[r]?=some (.map es c)) {g:Nat} {t:TypeId} {cs:Array Value} (h:aH W g t cs):aH (setBlock W r (.map x z)) g t cs:=by
 unfold aH at h ⊢;have y:r≠g:=by rintro rfl;rw[u]at h;cases h
 simp only[setBlock];rw[Ax y];exact h
theorem DI.add {w0 W:World}{n:Nat}(h:DI w0 n W)(v:Value)(b:Nat) (r:v=Ng (fun _=>b) (n+1)) (c:DeedBox W (fun k=>w0.heap.size<k∧k<W.heap.size) (fun _=>b) (n+1)) :
  ∃es,W.heap[w0.heap.size]?=some (.map es n)∧(∀e∈es.toList,∃b,e.key=Aj b∧((n+1:Nat):Int)≠b)∧DI w0 (n+1) (setBlock W w0.heap.size (.map (es.push ⟨Aj ((n+1:Nat):Int),v,n⟩) (n+1))):=by
 obtain⟨bs,y,s,x⟩:=h;have d:w0.heap.size<W.heap.size:=(bN.1 y).1;refine⟨_,y,Tu (by omega),fun i=>if i=n+1 then b else bs i,?_,?_,?_⟩
 ·simp only[setBlock];rw[Dw d,Tt,Rf (bs:=fun i=>if i=n+1 then b else bs i) (bs':=bs) (fun i hi=>by rw[if_neg (by omega)])];subst r;unfold Ng;simp
 ·intro i a f;have p:∀k,(w0.heap.size<k∧k<W.heap.size)→(w0.heap.size<k∧k<(setBlock W w0.heap.size (.map ((Gu bs n).toArray.push ⟨Aj ((n+1:Nat):Int),v,n⟩) (n+1))).heap.size):=fun k z=>by simpa [setBlock]using z
  by_cases q:i=n+1
  ·subst q;exact c.aQ (by simp) (fun g t cs u=>Gw y u) p
  ·exact(s i a (by omega)).aQ (by rw[if_neg q]) (fun g t cs u=>Gw y u) p
 ·exact⟨x.os,x.tape,x.output,by simpa [setBlock]using x.size,fun k z=>by
   simp only[setBlock];rw[Ax (by omega)];exact x.block k z⟩
theorem DI.alloc {w0 W:World}{n:Nat}(h:DI w0 n W)(o:Obj):DI w0 n (W.alloc o):=by
 obtain⟨bs,y,z,u⟩:=h;have p:w0.heap.size<W.heap.size:=(bN.1 y).1;exact⟨bs,(oW W o _ p).trans y,fun i a b=>(z i a b).aQ rfl (fun g t cs v=>v.alloc o) (fun k x=>⟨x.1,by have:=x.2;simp;omega⟩),u.alloc (by omega) o⟩
theorem DI.lt {w0 W:World}{n:Nat}(h:DI w0 n W):w0.heap.size<W.heap.size:=by
 obtain⟨bs,x,_⟩:=h;exact(bN.1 x).1
theorem Lk {ops:Array Oper}{rest:List Oper}{o:Oper}{a:Act}{Q:Exit→Act→World→Prop}(w0 W:World)(n:Nat)(y:o.guard=none)(m k x:Operand)(z:o.op=.insert 207 m k x)(j:o.dst=none)
  (q:a.eval m=.map (some w0.heap.size)) (r:a.eval k=Aj ((n+1:Nat):Int)) (v:Value) (u:a.eval x=v) (b:Nat) (f:DI w0 n W) (p:v=Ng (fun _=>b) (n+1)) (i:DeedBox W (fun k=>w0.heap.size<k∧k<W.heap.size) (fun _=>b) (n+1))
  (h:∀W',DI w0 (n+1) W'→wpList Tryz.prog ops Q rest a W'):wpList Tryz.prog ops Q (o::rest) a W:=by
 refine wpList_plain y fun l c=>?_
 obtain⟨es,g,s,e⟩:=f.add v b p i;have d:=h _ e;generalize ((n+1:Nat):Int)=X at *;unfold Oper.wp;simp only[execOp,z,q,r,u];simp[Iy (P:=Tryz.prog) (w:=W) Tryz.underlying207 Tryz.underlying3 g (v:=v) s,Result.andThen];unfold Oper.upon;exact c _ _ (by rw[j];exact d)
theorem Lt {P:Program}(w:World)(t:TypeId):Sem.run P (Instr.makeMap t none) w=.ok (.map (some w.heap.size)) (w.alloc (.map #[] 0)):=by
 unfold Instr.makeMap;simp[newObj,Sem.run]
theorem DI.start (w:World):DI w 0 (w.alloc (.map #[] 0)) :=
 ⟨fun _=>0,heap_alloc_new w _,fun i y x=>by omega,aI.alloc Aw _⟩
theorem DI.box {w0 W:World}{n:Nat}(h:DI w0 n W)(f:Fn)(t:TypeId):DI w0 n (W.alloc (.cells #[.func f #[] #[]] t))∧(w0.heap.size<W.heap.size∧W.heap.size<(W.alloc (.cells #[.func f #[] #[]] t)).heap.size)∧aH (W.alloc (.cells #[.func f #[] #[]] t)) W.heap.size t #[.func f #[] #[]] :=
 ⟨h.alloc _,⟨h.lt,by simp⟩,qv _ _ _⟩
def DB (w0:World)(n b:Nat)(t:TypeId)(f:Fn)(W:World):Prop:=DI w0 n W∧(w0.heap.size<b∧b<W.heap.size)∧aH W b t #[.func f #[] #[]]
theorem mV {w0 W:World}{n:Nat}(h:DI w0 n W)(f:Fn):Calls Tryz.prog 172 #[.func f #[] #[]] W fun e w'=>e=.returned (.func (.func 250) #[] #[.pointer (some ⟨W.heap.size,0,none⟩)])∧DB w0 n W.heap.size 74 f w' :=
 (Zea f W).mono fun _ _ x=>⟨x.1,by rw[←x.2];exact h.box f _⟩
theorem mS {w0 W:World}{n:Nat}(h:DI w0 n W)(f:Fn):Calls Tryz.prog 179 #[.func f #[] #[]] W fun e w'=>e=.returned (.func (.func 251) #[] #[.pointer (some ⟨W.heap.size,0,none⟩)])∧DB w0 n W.heap.size 117 f w' :=
 (Zfe f W).mono fun _ _ x=>⟨x.1,by rw[←x.2];exact h.box f _⟩
attribute [local go_sem] Lt
theorem Zcn (w:World):Calls Tryz.prog 99 #[] w fun e w'=>e=.returned (.map (some w.heap.size))∧DI w 39 w':=by
 go_enter Tryz.func99,Tryz.ntmps99;have x:=Aq (DI.start w);go_wp2_with (first
  | (refine Lk _ _ _ rfl _ _ _ rfl rfl rfl rfl _ rfl 0 x.o rfl trivial ?_;intro W z;clear x;have x:=Aq z;clear z)
  | (refine Lk _ _ _ rfl _ _ _ rfl rfl rfl rfl _ rfl _ x.o.1 rfl x.o.2 ?_;intro W z;clear x;have x:=Aq z;clear z)
  | (go_at_call 172;refine(mV x.o _).mono ?_;rintro e u⟨rfl,y⟩;clear x;have x:=Aq y;clear y)
  | (go_at_call 179;refine(mS x.o _).mono ?_;rintro e u⟨rfl,y⟩;clear x;have x:=Aq y;clear y))
 go_ret;exact⟨rfl,x.o⟩
end
section
open Go.RowKit Mc
def Yj (op:Int):Bool:=decide (1≤op∧op≤39)
theorem Zaa {k y:IntKind}{a b x z:Int}{c d:Bool}(h:a=b)(u:x=z)(v:c=d):Ending.returned (.tuple #[.int k a,.int y x,.bool c])=.returned (.tuple #[.int k b,.int y z,.bool d]):=by rw[h,u,v]
theorem Cy (op:Int)(w:World) :
  Calls Tryz.prog 237 #[Aj op] w fun e w'=>e=.returned (.tuple #[Aj (aO op:Nat),Aj (aV op:Nat),.bool (Yj op)])∧w=w':=by
 go_enter Tryz.func237,Tryz.ntmps237;go_wp2
 all_goals (go_ret3;go_light;refine⟨Zaa ?_ ?_ ?_,rfl⟩ <;> first|(simp_all [aO,aV,Yj];done)|(simp_all [Yj];omega))
theorem Gb (op:Int):aO op≤2:=by unfold aO;(repeat' split) <;> omega
theorem Fe (op:Int):aV op≤2:=by unfold aV;(repeat' split) <;> omega
theorem Zdv {s:St}{op a x:Int} (h:¬ (1≤op∧op≤39)):Fj s op a x=50:=by unfold Fj;rw[if_pos (by omega)]
theorem Zdu {s:St}{op a x:Int}(h:1≤op∧op≤39)(y:s.stack.length<aO op∨32+aO op<s.stack.length+aV op):Fj s op a x=51:=by unfold Fj;rw[if_neg (by omega),if_pos y]
theorem Zdx {s:St}{op a y:Int}(h:1≤op∧op≤39) (u:¬ (s.stack.length<aO op∨32+aO op<s.stack.length+aV op)) (z:op=35∨op=36):Fj s op a y=if a<0∨y<a then 52 else 0:=by
 unfold Fj;rw[if_neg (by omega),if_neg u];by_cases x:a<0∨y<a
 ·rw[if_pos ⟨z,x⟩,if_pos x]
 ·rw[if_neg (fun e=>x e.2),if_neg (by omega),if_neg x]
theorem Zdz {s:St}{op a y:Int}(h:1≤op∧op≤39) (u:¬ (s.stack.length<aO op∨32+aO op<s.stack.length+aV op)) (z:op=37∨op=38):Fj s op a y=if a<0∨(s.funcs.length:Int)≤a∨20<s.aD.length then 54 else 0:=by
 unfold Fj;rw[if_neg (by omega),if_neg u,if_neg (by omega)];by_cases x:a<0∨(s.funcs.length:Int)≤a∨20<s.aD.length
 ·rw[if_pos ⟨z,x⟩,if_pos x]
 ·rw[if_neg (fun e=>x e.2),if_neg x]
theorem Zdw {s:St}{op a x:Int}(h:1≤op∧op≤39) (u:¬ (s.stack.length<aO op∨32+aO op<s.stack.length+aV op)) (z:¬ (op=35∨op=36)) (y:¬ (op=37∨op=38)):Fj s op a x=0:=by
 unfold Fj;rw[if_neg (by omega),if_neg u,if_neg (fun e=>z e.1),if_neg (fun e=>y e.1)]
theorem Zho (w:World)(mb:Nat)(s:St)(op a k:Int)(u b v:Option Addr)(cs c cu:Nat)(i:mb<w.heap.size) (_c40:w.cell? ⟨mb,40,none⟩=some (.slice u s.stack.length cs)) (_c1:w.cell? ⟨mb,1,none⟩=some (.slice b s.aD.length c)) (_c0:w.cell? ⟨mb,0,none⟩=some (.slice v s.funcs.length cu)) (_hsl:s.stack.length≤32) (_hfl:s.aD.length≤21) (_hul:s.funcs.length≤1000000) (x:¬ (1≤op∧op≤39)) :
  Calls Tryz.prog 158 #[.pointer (some ⟨mb,0,none⟩),.agg #[Aj op,Aj a],Aj k] w fun e w'=>e=.returned (Aj 50)∧Below w.heap.size w w':=by
 have f:mb<w.heap.size+1:=by omega
 have g:=Gb op;have d:=Fe op;generalize y:aO op=T at *;generalize z:aV op=V at *;have q:=Aq y;have r:=Aq z;clear y z;have p:=Aq (show Yj op=false from decide_eq_false x);clear x;go_enter Tryz.func158,Tryz.ntmps158;go_wp2_with fail
 refine(Cy _ _).mono ?_;rintro e w1⟨rfl,rfl⟩;rw[q.o,r.o,p.o];go_wp2;go_ret;exact⟨rfl,aI.alloc Aw _⟩
theorem Zhn (w:World)(mb:Nat)(s:St)(op a b:Int)(q c r:Option Addr)(cs d cu:Nat)(n:mb<w.heap.size) (dY:w.cell? ⟨mb,40,none⟩=some (.slice q s.stack.length cs)) (_c1:w.cell? ⟨mb,1,none⟩=some (.slice c s.aD.length d)) (_c0:w.cell? ⟨mb,0,none⟩=some (.slice r s.funcs.length cu)) (j:s.stack.length≤32) (_hfl:s.aD.length≤21) (_hul:s.funcs.length≤1000000) (x:1≤op∧op≤39) (u:s.stack.length<aO op∨32+aO op<s.stack.length+aV op) :
  Calls Tryz.prog 158 #[.pointer (some ⟨mb,0,none⟩),.agg #[Aj op,Aj a],Aj b] w fun e w'=>e=.returned (Aj 51)∧Below w.heap.size w w':=by
 have l:mb<w.heap.size+1:=by omega
 have m:=Gb op;have g:=Fe op;generalize v:aO op=T at *;generalize p:aV op=V at *;have z:=Aq v;have k:=Aq p;clear v p;have y:=Aq (show Yj op=true from decide_eq_true x);clear x;by_cases f:s.stack.length<T
 ·clear u;go_enter Tryz.func158,Tryz.ntmps158;go_wp2_with fail
  refine(Cy _ _).mono ?_;rintro e w1⟨rfl,rfl⟩;rw[z.o,k.o,y.o];go_wp2;go_ret;exact⟨rfl,aI.alloc Aw _⟩
 ·have i:32+T<s.stack.length+V:=by omega
  clear u;go_enter Tryz.func158,Tryz.ntmps158;go_wp2_with fail
  refine(Cy _ _).mono ?_;rintro e w1⟨rfl,rfl⟩;rw[z.o,k.o,y.o];go_wp2;go_ret;exact⟨rfl,aI.alloc Aw _⟩
theorem nQ (w:World)(mb:Nat)(s:St)(op a p:Int)(u d v:Option Addr)(cs f cu:Nat)(X:mb<w.heap.size) (dY:w.cell? ⟨mb,40,none⟩=some (.slice u s.stack.length cs)) (_c1:w.cell? ⟨mb,1,none⟩=some (.slice d s.aD.length f)) (_c0:w.cell? ⟨mb,0,none⟩=some (.slice v s.funcs.length cu)) (_hsl:s.stack.length≤32) (_hfl:s.aD.length≤21) (_hul:s.funcs.length≤1000000) (x:1≤op∧op≤39) (m:¬ s.stack.length<aO op) (K:¬ 32+aO op<s.stack.length+aV op) (k:¬ (op=35∨op=36)) (q:¬ (op=37∨op=38)) :
  Calls Tryz.prog 158 #[.pointer (some ⟨mb,0,none⟩),.agg #[Aj op,Aj a],Aj p] w fun e w'=>e=.returned (Aj 0)∧Below w.heap.size w w':=by
 have j:mb<w.heap.size+1:=by omega
 have n:=Gb op;have i:=Fe op;generalize y:aO op=T at *;generalize z:aV op=V at *;have b:=Aq y;have c:=Aq z;clear y z;have r:=Aq (show Yj op=true from decide_eq_true x);have Y:(op==35)=false:=by simp;omega
 have g:(op==36)=false:=by simp;omega
 have l:(op==37)=false:=by simp;omega
 have H:(op==38)=false:=by simp;omega
 clear x k q;go_enter Tryz.func158,Tryz.ntmps158;go_wp2_with fail
 refine(Cy _ _).mono ?_;rintro e w1⟨rfl,rfl⟩;rw[b.o,c.o,r.o];go_wp2;go_ret;exact⟨rfl,aI.alloc Aw _⟩
theorem mg (w:World)(mb:Nat)(s:St)(op a x:Int)(r c b:Option Addr)(cs d cu:Nat)(H:mb<w.heap.size) (dY:w.cell? ⟨mb,40,none⟩=some (.slice r s.stack.length cs)) (_c1:w.cell? ⟨mb,1,none⟩=some (.slice c s.aD.length d)) (_c0:w.cell? ⟨mb,0,none⟩=some (.slice b s.funcs.length cu)) (_hsl:s.stack.length≤32) (_hfl:s.aD.length≤21) (_hul:s.funcs.length≤1000000) (y:op=35∨op=36) (l:¬ s.stack.length<aO op) (n:¬ 32+aO op<s.stack.length+aV op) (z:a<0∨x<a) :
  Calls Tryz.prog 158 #[.pointer (some ⟨mb,0,none⟩),.agg #[Aj op,Aj a],Aj x] w fun e w'=>e=.returned (Aj 52)∧Below w.heap.size w w':=by
 have j:mb<w.heap.size+1:=by omega
 have m:=Gb op;have g:=Fe op;generalize k:aO op=T at *;generalize q:aV op=V at *;have v:=Aq k;have p:=Aq q;clear k q;have u:Hid (Yj op=true):=Aq (by rcases y with rfl|rfl <;> rfl);rcases y with rfl|rfl
 all_goals
  by_cases f:a<0
  ·clear z;go_enter Tryz.func158,Tryz.ntmps158;go_wp2_with fail
   refine(Cy _ _).mono ?_;rintro e w1⟨rfl,rfl⟩;rw[v.o,p.o,u.o];go_wp2;go_ret;exact⟨rfl,aI.alloc Aw _⟩
  ·have i:x<a:=by omega
   clear z;go_enter Tryz.func158,Tryz.ntmps158;go_wp2_with fail
   refine(Cy _ _).mono ?_;rintro e w1⟨rfl,rfl⟩;rw[v.o,p.o,u.o];go_wp2;go_ret;exact⟨rfl,aI.alloc Aw _⟩
theorem Zhi (w:World)(mb:Nat)(s:St)(op a y:Int)(v b k:Option Addr)(cs c cu:Nat)(H:mb<w.heap.size) (dY:w.cell? ⟨mb,40,none⟩=some (.slice v s.stack.length cs)) (_c1:w.cell? ⟨mb,1,none⟩=some (.slice b s.aD.length c)) (_c0:w.cell? ⟨mb,0,none⟩=some (.slice k s.funcs.length cu)) (g:s.stack.length≤32) (_hfl:s.aD.length≤21) (_hul:s.funcs.length≤1000000) (x:op=35∨op=36) (l:¬ s.stack.length<aO op) (n:¬ 32+aO op<s.stack.length+aV op) (d:0≤a) (j:a≤y) :
  Calls Tryz.prog 158 #[.pointer (some ⟨mb,0,none⟩),.agg #[Aj op,Aj a],Aj y] w fun e w'=>e=.returned (Aj 0)∧Below w.heap.size w w':=by
 have i:mb<w.heap.size+1:=by omega
 have m:=Gb op;have f:=Fe op;generalize z:aO op=T at *;generalize u:aV op=V at *;have q:=Aq z;have r:=Aq u;clear z u;have p:Hid (Yj op=true):=Aq (by rcases x with rfl|rfl <;> rfl);rcases x with rfl|rfl
 all_goals
  go_enter Tryz.func158,Tryz.ntmps158;go_wp2_with fail
  refine(Cy _ _).mono ?_;rintro e w1⟨rfl,rfl⟩;rw[q.o,r.o,p.o];go_wp2;go_ret;exact⟨rfl,aI.alloc Aw _⟩
theorem Zhl (w:World)(mb:Nat)(s:St)(op a r:Int)(p b q:Option Addr)(cs c cu:Nat)(n:mb<w.heap.size) (dY:w.cell? ⟨mb,40,none⟩=some (.slice p s.stack.length cs)) (_c1:w.cell? ⟨mb,1,none⟩=some (.slice b s.aD.length c)) (_c0:w.cell? ⟨mb,0,none⟩=some (.slice q s.funcs.length cu)) (g:s.stack.length≤32) (_hfl:s.aD.length≤21) (_hul:s.funcs.length≤1000000) (x:op=37∨op=38) (j:¬ s.stack.length<aO op) (m:¬ 32+aO op<s.stack.length+aV op) (d:a<0) :
  Calls Tryz.prog 158 #[.pointer (some ⟨mb,0,none⟩),.agg #[Aj op,Aj a],Aj r] w fun e w'=>e=.returned (Aj 54)∧Below w.heap.size w w':=by
 have i:mb<w.heap.size+1:=by omega
 have l:=Gb op;have f:=Fe op;generalize u:aO op=T at *;generalize k:aV op=V at *;have z:=Aq u;have v:=Aq k;clear u k;have y:Hid (Yj op=true):=Aq (by rcases x with rfl|rfl <;> rfl);rcases x with rfl|rfl
 ·go_enter Tryz.func158,Tryz.ntmps158;go_wp2_with fail
  refine(Cy _ _).mono ?_;rintro e w1⟨rfl,rfl⟩;rw[z.o,v.o,y.o];go_wp2_with fail
  go_quiet (fail);go_wp2;go_ret;exact⟨rfl,below_drewN (aI.alloc Aw _) _⟩
 ·go_enter Tryz.func158,Tryz.ntmps158;go_wp2_with fail
  refine(Cy _ _).mono ?_;rintro e w1⟨rfl,rfl⟩;rw[z.o,v.o,y.o];go_wp2_with fail
  go_quiet (fail);go_wp2;go_ret;exact⟨rfl,below_drewN (aI.alloc Aw _) _⟩
theorem Zhk (w:World)(mb:Nat)(s:St)(op a r:Int)(p b q:Option Addr)(cs c cu:Nat)(H:mb<w.heap.size) (dY:w.cell? ⟨mb,40,none⟩=some (.slice p s.stack.length cs)) (_c1:w.cell? ⟨mb,1,none⟩=some (.slice b s.aD.length c)) (c0:w.cell? ⟨mb,0,none⟩=some (.slice q s.funcs.length cu)) (g:s.stack.length≤32) (_hfl:s.aD.length≤21) (_hul:s.funcs.length≤1000000) (x:op=37∨op=38) (l:¬ s.stack.length<aO op) (n:¬ 32+aO op<s.stack.length+aV op) (d:0≤a) (j:(s.funcs.length:Int)≤a) :
  Calls Tryz.prog 158 #[.pointer (some ⟨mb,0,none⟩),.agg #[Aj op,Aj a],Aj r] w fun e w'=>e=.returned (Aj 54)∧Below w.heap.size w w':=by
 have i:mb<w.heap.size+1:=by omega
 have m:=Gb op;have f:=Fe op;generalize u:aO op=T at *;generalize k:aV op=V at *;have z:=Aq u;have v:=Aq k;clear u k;have y:Hid (Yj op=true):=Aq (by rcases x with rfl|rfl <;> rfl);rcases x with rfl|rfl
 ·go_enter Tryz.func158,Tryz.ntmps158;go_wp2_with fail
  refine(Cy _ _).mono ?_;rintro e w1⟨rfl,rfl⟩;rw[z.o,v.o,y.o];go_wp2_with fail
  go_quiet (fail);go_wp2;go_ret;exact⟨rfl,below_drewN (aI.alloc Aw _) _⟩
 ·go_enter Tryz.func158,Tryz.ntmps158;go_wp2_with fail
  refine(Cy _ _).mono ?_;rintro e w1⟨rfl,rfl⟩;rw[z.o,v.o,y.o];go_wp2_with fail
  go_quiet (fail);go_wp2;go_ret;exact⟨rfl,below_drewN (aI.alloc Aw _) _⟩
theorem Zhj (w:World)(mb:Nat)(s:St)(op a r:Int)(p b q:Option Addr)(cs c cu:Nat)(Y:mb<w.heap.size) (dY:w.cell? ⟨mb,40,none⟩=some (.slice p s.stack.length cs)) (d:w.cell? ⟨mb,1,none⟩=some (.slice b s.aD.length c)) (c0:w.cell? ⟨mb,0,none⟩=some (.slice q s.funcs.length cu)) (j:s.stack.length≤32) (f:s.aD.length≤21) (_hul:s.funcs.length≤1000000) (x:op=37∨op=38) (H:¬ s.stack.length<aO op) (X:¬ 32+aO op<s.stack.length+aV op) (g:0≤a) (m:a<s.funcs.length) (n:20<s.aD.length) :
  Calls Tryz.prog 158 #[.pointer (some ⟨mb,0,none⟩),.agg #[Aj op,Aj a],Aj r] w fun e w'=>e=.returned (Aj 54)∧Below w.heap.size w w':=by
 have l:mb<w.heap.size+1:=by omega
 have K:=Gb op;have i:=Fe op;generalize u:aO op=T at *;generalize k:aV op=V at *;have z:=Aq u;have v:=Aq k;clear u k;have y:Hid (Yj op=true):=Aq (by rcases x with rfl|rfl <;> rfl);rcases x with rfl|rfl
 ·go_enter Tryz.func158,Tryz.ntmps158;go_wp2_with fail
  refine(Cy _ _).mono ?_;rintro e w1⟨rfl,rfl⟩;rw[z.o,v.o,y.o];go_wp2_with fail
  go_quiet (fail);go_wp2;go_ret;exact⟨rfl,below_drewN (aI.alloc Aw _) _⟩
 ·go_enter Tryz.func158,Tryz.ntmps158;go_wp2_with fail
  refine(Cy _ _).mono ?_;rintro e w1⟨rfl,rfl⟩;rw[z.o,v.o,y.o];go_wp2_with fail
  go_quiet (fail);go_wp2;go_ret;exact⟨rfl,below_drewN (aI.alloc Aw _) _⟩
theorem Zhm (w:World)(mb:Nat)(s:St)(op a r:Int)(p b q:Option Addr)(cs c cu:Nat)(Y:mb<w.heap.size) (dY:w.cell? ⟨mb,40,none⟩=some (.slice p s.stack.length cs)) (d:w.cell? ⟨mb,1,none⟩=some (.slice b s.aD.length c)) (c0:w.cell? ⟨mb,0,none⟩=some (.slice q s.funcs.length cu)) (j:s.stack.length≤32) (f:s.aD.length≤21) (_hul:s.funcs.length≤1000000) (x:op=37∨op=38) (H:¬ s.stack.length<aO op) (X:¬ 32+aO op<s.stack.length+aV op) (g:0≤a) (m:a<s.funcs.length) (n:¬ 20<s.aD.length) :
  Calls Tryz.prog 158 #[.pointer (some ⟨mb,0,none⟩),.agg #[Aj op,Aj a],Aj r] w fun e w'=>e=.returned (Aj 0)∧Below w.heap.size w w':=by
 have l:mb<w.heap.size+1:=by omega
 have K:=Gb op;have i:=Fe op;generalize u:aO op=T at *;generalize k:aV op=V at *;have z:=Aq u;have v:=Aq k;clear u k;have y:Hid (Yj op=true):=Aq (by rcases x with rfl|rfl <;> rfl);rcases x with rfl|rfl
 ·go_enter Tryz.func158,Tryz.ntmps158;go_wp2_with fail
  refine(Cy _ _).mono ?_;rintro e w1⟨rfl,rfl⟩;rw[z.o,v.o,y.o];go_wp2_with fail
  go_quiet (fail);go_wp2;go_ret;exact⟨rfl,below_drewN (aI.alloc Aw _) _⟩
 ·go_enter Tryz.func158,Tryz.ntmps158;go_wp2_with fail
  refine(Cy _ _).mono ?_;rintro e w1⟨rfl,rfl⟩;rw[z.o,v.o,y.o];go_wp2_with fail
  go_quiet (fail);go_wp2;go_ret;exact⟨rfl,below_drewN (aI.alloc Aw _) _⟩
theorem Yn (w:World)(mb:Nat)(O:Nat→Prop)(L:bd)(s:St)(h:ag w mb O L s)(op a x:Int) :
  Calls Tryz.prog 158 #[.pointer (some ⟨mb,0,none⟩),.agg #[Aj op,Aj a],Aj x] w fun e w'=>e=.returned (Aj (Fj s op a x))∧Below w.heap.size w w':=by
 obtain⟨v,cs,Y,_,_⟩:=h.sk.form;have dY:=h.aG.cell 40;rw[h.c.dY,Y]at dY;obtain⟨d,f,X,_,_⟩:=h.fr.form;have z:=h.aG.cell 1;rw[h.c.c1,X]at z;obtain⟨k,r,K,_,_⟩:=h.fu.form;have c0:=h.aG.cell 0;rw[h.c.c0,K]at c0;have b:=h.aG.lt;have q:=h.ok.dg;have p:=h.ok.fW;have u:=h.ok.jy;by_cases g:1≤op∧op≤39
 ·by_cases i:s.stack.length<aO op∨32+aO op<s.stack.length+aV op
  ·rw[Zdu g i];exact Zhn w mb s op a x v d k cs f r b dY z c0 q p u g i
  ·have j:¬ s.stack.length<aO op:=fun e=>i (.inl e)
   have l:¬ 32+aO op<s.stack.length+aV op:=fun e=>i (.inr e)
   by_cases m:op=35∨op=36
   ·rw[Zdx g i m];by_cases y:a<0∨x<a
    ·rw[if_pos y];exact mg w mb s op a x v d k cs f r b dY z c0 q p u m j l y
    ·rw[if_neg y];exact Zhi w mb s op a x v d k cs f r b dY z c0 q p u m j l (by omega) (by omega)
   ·by_cases y:op=37∨op=38
    ·rw[Zdz g i y];by_cases o:a<0
     ·rw[if_pos (.inl o)];exact Zhl w mb s op a x v d k cs f r b dY z c0 q p u y j l o
     ·by_cases H:(s.funcs.length:Int)≤a
      ·rw[if_pos (.inr (.inl H))];exact Zhk w mb s op a x v d k cs f r b dY z c0 q p u y j l (by omega) H
      ·by_cases n:20<s.aD.length
       ·rw[if_pos (.inr (.inr n))];exact Zhj w mb s op a x v d k cs f r b dY z c0 q p u y j l (by omega) (by omega) n
       ·rw[if_neg (by omega)];exact Zhm w mb s op a x v d k cs f r b dY z c0 q p u y j l (by omega) (by omega) n
    ·rw[Zdw g i m y];exact nQ w mb s op a x v d k cs f r b dY z c0 q p u g j l m y
 ·rw[Zdv g];exact Zho w mb s op a x v d k cs f r b dY z c0 q p u g
def Kh (fs:List Fm):Nat:=(fs.map (·.a_+1)).sum
def Zgq (w:World)(mb:Nat)(O:Nat→Prop)(s:St)(e:Ending)(w':World):Prop :=
 (∃x y,e=.returned (.tuple #[.agg #[Aj x,Aj y],.bool (next s).2.isSome])∧∀i,(next s).2=some i→i=(x,y))∧(∃L',ag w' mb O L' (next s).1)∧Fr O w w'
def lI (w:World)(mb:Nat)(O:Nat→Prop)(s:St)(k:Nat)(wr:World):Prop :=
 ∃fs L',Kh fs<k∧ag wr mb O L' { s with aD:=fs }∧Mc.settle fs=Mc.settle s.aD∧aH wr w.heap.size 96 #[Aj 0,Aj 0]∧Fr O w wr
theorem fV {s:St}(h:s.ai=true):next s=(s,none):=by unfold next;rw[if_pos h]
theorem Zff {s:St}(h:s.ai=false) (x:Mc.settle s.aD=[]):next s=({ s with aD:=[],ai:=true },none):=by unfold next;rw[if_neg (by simp[h]),x]
theorem Zau {s:St}(h:s.ai=false){f:Fm}{r:List Fm}(x:Mc.settle s.aD=f::r){op a:Int} (hi:f.aA[f.next]?=some (op,a)) :
  next s=({ s with aD:=f::r,bp:=Fj { s with aD:=f::r } op a (f.aA.length-1-f.next:Int),ai:=decide (Fj { s with aD:=f::r } op a (f.aA.length-1-f.next:Int)≠0) },if Fj { s with aD:=f::r } op a (f.aA.length-1-f.next:Int)=0 then some (op,a) else none):=by
 unfold next;rw[if_neg (by simp[h]),x];simp only[Da hi]
theorem Np {f:Fm}{r:List Fm}(h:f.next<f.aA.length):Mc.settle (f::r)=f::r:=by unfold Mc.settle;rw[if_pos h]
theorem Wv {f:Fm}{r:List Fm}(h:¬ f.next<f.aA.length)(x:f.a_=0):Mc.settle (f::r)=Mc.settle r:=by
 conv=>lhs;unfold Mc.settle
 rw[if_neg h,if_neg (by omega)]
theorem Sf {f:Fm}{r:List Fm}(h:¬ f.next<f.aA.length)(z:0<f.a_):Mc.settle ({ f with next:=0,a_:=f.a_-1 } :: r)=Mc.settle (f::r):=by
 by_cases x:0<f.aA.length
 ·rw[Np (by simpa using x)]
  conv=>rhs;unfold Mc.settle
  rw[if_neg h,if_pos ⟨z,x⟩]
 ·have u:Mc.settle ({ f with next:=0,a_:=f.a_-1 } :: r)=Mc.settle r:=by
   conv=>lhs;unfold Mc.settle
   rw[if_neg (by simpa using x),if_neg (fun e=>x e.2)]
  have y:Mc.settle (f::r)=Mc.settle r:=by
   conv=>lhs;unfold Mc.settle
   rw[if_neg h,if_neg (by omega)]
  rw[u,y]
section
variable {w w' : World} {mb : Nat} {O : Nat → Prop} {L : bd} {s : St} {f : Fm} {r : List Fm}
theorem ag.drewN (h:ag w mb O L s)(n:Nat):ag (w.drewN n) mb O L s:=h.aQ (fun _ _=>rfl) (fun _ h=>h) h.eQ
theorem ag.popFm (h:ag w mb O L s)(a:s.aD=f::r){g c:Nat}{v:Value}{vs:List Value}(z:nj w mb O L s f r g c v vs) :
  ∃L',ag (w.setCell ⟨mb,1,none⟩ (.slice (some ⟨g,0,none⟩) r.length c)) mb O L' { s with aD:=r } := by
 have b:=h.fr;rw[a,z.iu]at b;have p:=b.take (m:=r.length) (by simp) (A:=some ⟨g,0,none⟩) (c:=c) (by rw[z.fr];simp);rw[Zfz v vs f r z.n_]at p;have q:∀k,k≠mb→(w.setCell ⟨mb,1,none⟩ (.slice (some ⟨g,0,none⟩) r.length c)).heap[k]?=w.heap[k]?:=fun k y=>Bp _ _ _ _ y
 refine⟨_,h.dv (u:=.slice (some ⟨g,0,none⟩) r.length c) (vs:=vs) (fs:=r) ?_ (h.aG.aZ 1 _) (h.c.lh _ _ _) (p.aQ (fun k y=>q k (fun e=>p.bz h.aG (by decide) y e)) (fun _ h=>h)) (fun k y=>.inl (by rw[z.fr];exact y)) (fun k _ y _=>q k y) (fun _ h=>h) (fun k i=>by have:=h.eQ k i;simpa [World.setCell]using this) (h.ok.dv (fun x d=>h.ok.aD x (by rw[a];exact oJ _ d)) (by have:=h.ok.fW;rw[a]at this;simp at this;omega))⟩;exact z.mP.aQ (fun k cs l j=>q k (j.dF h.aG (by decide))) (fun _ h=>h)
end
theorem Vf (w:World)(mb:Nat)(O:Nat→Prop)(L:bd)(s:St)(h:ag w mb O L s) :
  Calls Tryz.prog 82 #[.pointer (some ⟨mb,0,none⟩)] w (Zgq w mb O s):=by
 by_cases S:s.ai=true
 ·have ey:=h.aG.cell 47;rw[h.c.ey,S]at ey;have HM:=h.aG.frozen 47;have B:=h.aG.lt;have a8:mb<w.heap.size+1:=by omega
  have Y:s = { s with ai:=true } := by cases s;simp only at S;subst S;rfl
  have K:=h.aZ (h.c.gq true) (h.ok.dr h.ok.store h.ok.dR h.ok.look h.ok.move h.ok.bG h.ok.aL);rw[←Y]at K;have l:=Aq (K.alloc (.cells #[Aj 0,Aj 0] 96));have HN:=Aq (fV S);have HF:=Aq (((qu O w).setCell (p:=⟨mb,47,none⟩) (.inl h.ew) (.bool true)).alloc (.cells #[Aj 0,Aj 0] 96));clear h S Y K;go_enter Tryz.func82,Tryz.ntmps82;go_wp2;refine wp_loop_rounds 1 ?_;rw[rounds_succ];go_wp2;refine bodyPost_ret (v:=.tuple #[.agg #[Aj 0,Aj 0],.bool false]) (by simp[results,Tryz.results82,go_sem]) rfl ?_;unfold Zgq;rw[HN.o];exact⟨⟨0,0,rfl,fun i hi=>by cases hi⟩,⟨_,l.o⟩,HF.o⟩
 ·have y5:s.ai=false:=by simpa using S
  have H0:Hid (lI w mb O s (Kh s.aD+1) (w.alloc (.cells #[Aj 0,Aj 0] 96))):=Aq ⟨s.aD,L,by omega,h.alloc _,rfl,qv _ _ _,(qu O w).alloc _⟩;have HE:=Aq y5;have N:=Aq (h.gY (pp w.heap.size));clear h S y5;go_enter Tryz.func82,Tryz.ntmps82;go_wp2;generalize w.alloc (.cells #[Aj 0,Aj 0] 96)=w0 at *;go_loopg [] (Kh s.aD+1) (fun k wr=>lI w mb O s k wr)
  case atStart=>exact H0.o
  case round =>
   clear H0;obtain⟨fs,L',d,z,Y,H,E⟩:=hrel;have l:=Aq z;have v1:=Aq Y;have HB:=Aq H;have HF:=Aq E;have ey:=z.aG.cell 47;rw[z.c.ey]at ey;dsimp only at ey;rw[HE.o]at ey;have HM:=z.aG.frozen 47;have B:=z.aG.lt;have G:=H.cell 0;have R:=H.cell 1;have x0:=H.frozen 0;have h6:=H.frozen 1;have bl:=H.lt;simp only[Az,Ay,Bc]at G R;have x3:mb≠w.heap.size:=fun e=>z.aG.dF H (by decide) e
   have i0:=z.ok.fW;dsimp only at i0;rcases fs with _|⟨f,r⟩
   ·obtain⟨A,c,hv,_,_⟩:=z.fr.form;have U:=z.aG.cell 1;rw[z.c.c1,hv]at U;simp only[Bw]at U;clear z Y H E hv;go_wp2;have K:=l.o.aZ (l.o.c.gq true) (l.o.ok.dr l.o.ok.store l.o.ok.dR l.o.ok.look l.o.ok.move l.o.ok.bG l.o.ok.aL);have z3:=(K.jt (p:=⟨w.heap.size,0,none⟩) N.o (Aj 0)).jt (p:=⟨w.heap.size,1,none⟩) N.o (Aj 0);have y6:=((HF.o.setCell (p:=⟨mb,47,none⟩) (.inl l.o.ew) (.bool true)).setCell (p:=⟨w.heap.size,0,none⟩) (.inr Aw) (Aj 0)).setCell (p:=⟨w.heap.size,1,none⟩) (.inr Aw) (Aj 0);have V:=Aq z3;have mo:=Aq y6;clear K z3 y6;refine bodyPost_ret (v:=.tuple #[.agg #[Aj 0,Aj 0],.bool false]) (by simp[results,Tryz.results82,go_sem,G,R]) rfl ?_;unfold Zgq;rw[Zff HE.o (by rw[←v1.o];rfl)];exact⟨⟨0,0,rfl,fun i hi=>by cases hi⟩,⟨_,V.o⟩,mo.o⟩
   ·obtain⟨g,c,v,vs,y⟩:=z.bk rfl;have v4:=Aq y;obtain⟨Ac,cc,ht,_,_⟩:=y.aA.form;subst ht;have U:=z.aG.cell 1;rw[z.c.c1,y.fr]at U;have t0:=y.c0;have t1:=y.c1;have t2:=y.c2;have u0:=y.fz (r.length*3+1);have y2:=y.fz (r.length*3+2);have tg:=y.glt;have y3:=y.gmb;have h7:=y.dA;have z0:g≠w.heap.size:=fun e=>N.o (e ▸ y.gO)
    have v6:=z.ok.aD f (by simp);obtain⟨v5,a1,v8⟩:=v6;have f1:=z.aG.frozen 1;have h4:=z.aG.frozen 48;obtain⟨u4,z2⟩:∃u,wr.cell? ⟨mb,48,none⟩=some u:=⟨_,by rw[z.aG.cell];exact z.c.iH⟩;have v3:=Aq y.aA;by_cases c1:f.next<f.aA.length
    ·obtain⟨⟨op,a⟩,x5⟩:∃x,f.aA[f.next]?=some x:=⟨_,Bg c1⟩;obtain⟨gc,v9,ht,a0,_,a5,HO,x2,_⟩:=y.aA.aK (by omega)
     injection ht with ht _ u5
     subst ht u5;obtain⟨D,F⟩:=Fy x5;have q0:=x2 _ _ D;have q1:=x2 _ _ F;rw[oB 2]at q0 q1;dsimp only at q0 q1;have HN:=Aq (Zau (s:=s) HE.o (f:=f) (r:=r) (Y.symm.trans (Np c1)) x5);have u7:=l;clear z Y H E y x2 x5 D F v3;simp only[Bo]at i0;generalize K:r.length=m at *;generalize hM:f.next=M at *;generalize hm:f.aA.length=cl at *;clear K hM hm;obtain⟨k,x7,y9,d⟩:∃k,m<k∧k≤m+1∧m+1=k:=⟨m+1,by omega,by omega,rfl⟩;rw[d]at U h7;clear d;have P:IntKind.i64.wrap ((k:Int)-1)=(m:Int):=by rw[Do _ (by omega)];omega
     go_wp2_with fail
     go_quiet (fail);go_wp2_with fail
     clear P;go_quiet (fail);go_wp2_with fail
     rename_i n1 K5 a9;have h9:=Aq ((l.o.drewN n1).drewN nq);have z1:=Aq ((HB.o.drewN n1).drewN nq);have u1:=Aq ((HF.o.drewN n1).drewN nq)
     replace t0:((wr.drewN n1).drewN nq).cell? ⟨g,m*3,none⟩=_:=t0
     replace t1:((wr.drewN n1).drewN nq).cell? ⟨g,m*3+1,none⟩=_:=t1
     replace q0:((wr.drewN n1).drewN nq).cell? _=_:=q0
     replace q1:((wr.drewN n1).drewN nq).cell? _=_:=q1
     replace HO:gc<((wr.drewN n1).drewN nq).heap.size:=HO
     replace tg:g<((wr.drewN n1).drewN nq).heap.size:=tg
     replace bl:w.heap.size<((wr.drewN n1).drewN nq).heap.size:=bl
     replace B:mb<((wr.drewN n1).drewN nq).heap.size:=B
     clear l HB HF v4 u7 U f1 t2 u0 y2 ey HM G R x0 h6 h4 z2;generalize (wr.drewN n1).drewN nq=W at *;go_region;go_wp2_with fail
     have C:=Aq ((qv W 96 #[Aj op,Aj a]).drew);have D:=C.o.cell 0;have F:=C.o.cell 1;simp only[Az,Ay,Bc]at D F;have V:=Aq ((h9.o.alloc (.cells #[Aj op,Aj a] 96)).drew);have z7:=Aq ((z1.o.alloc (.cells #[Aj op,Aj a] 96)).drew);have mo:=Aq ((u1.o.alloc (.cells #[Aj op,Aj a] 96)).drew);have y8:(W.alloc (.cells #[Aj op,Aj a] 96)).drew.cell? ⟨g,m*3,none⟩=_:=(Cb W _ _ tg).trans t0;have z4:(W.alloc (.cells #[Aj op,Aj a] 96)).drew.cell? ⟨g,m*3+1,none⟩=_:=(Cb W _ _ tg).trans t1;have x9:=Aq (h9.o.gY (pp W.heap.size));have v7:=Aq (show W.heap.size≠w.heap.size by omega);have y4:g<(W.alloc (.cells #[Aj op,Aj a] 96)).drew.heap.size:=by simp;omega
     clear h9 z1 u1 t0 t1 q0 q1 tg bl B HO;generalize (W.alloc (.cells #[Aj op,Aj a] 96)).drew=W2 at *;generalize W.heap.size=ib at *;clear W;have P:IntKind.i64.wrap ((cl:Int)-1)=((cl:Int)-1):=by rw[Do _ (by omega)]
     have u3:IntKind.i64.wrap ((cl:Int)-1-M)=((cl:Int)-1-M):=by rw[Do _ (by omega)]
     have i1:ib≠mb:=fun e=>x9.o (e ▸ V.o.ew)
     go_region_held3 (fun w'=>w'.cell? ⟨g,m*3,none⟩=some (.slice (some ⟨gc,0,none⟩) cl cc)∧w'.cell? ⟨g,m*3+1,none⟩=some (Aj M)∧w'.cell? ⟨ib,0,none⟩=some (Aj op)∧w'.cell? ⟨ib,1,none⟩=some (Aj a)) (first|(go_keep;done)|(refine⟨?_,?_,?_,?_⟩ <;> (refine(mt _ _ _ _ (by intro e;injection e with e;first|exact y3 e|exact y3 e.symm|exact i1 e|exact i1 e.symm)).trans ?_;assumption)))
      (first|(go_at_call 158;refine(Yn W2.drew mb O L' _ V.o.drew op a _).mono ?_;rintro e w3⟨rfl,T⟩;have b0:Fr O W2 w3:=(qu O W2).drew.trans (qC T (fun k d _=>d));have h1:=Aq (b0.aG C.o x9.o);have q:=Aq (V.o.aQ (w':=w3) (fun k d=>T.block k (V.o.eQ k d)) (fun _ h=>h) (fun k d=>Dm (V.o.eQ k d) T.size));have y7:=Aq (b0.aG z7.o N.o);have z8:=Aq (mo.o.trans b0);have u6:=(T.cell (p:=⟨g,m*3,none⟩) y4).trans y8;have v2:=(T.cell (p:=⟨g,m*3+1,none⟩) y4).trans z4;have z9:=h1.o.cell 0;have y0:=h1.o.cell 1;simp only[Az,Ay,Bc]at z9 y0;clear b0 T C V z7 mo D F y8 z4 P u3;obtain⟨u4,iH⟩:∃u,w3.cell? ⟨mb,48,none⟩=some u:=⟨_,by rw[q.o.aG.cell];exact q.o.c.iH⟩;have h4:=q.o.aG.frozen 48;have B:=q.o.aG.lt))
     rename_i v0;clear v0 u6 v2 z9 y0;generalize hE:Fj { s with aD:=f::r } op a ((cl:Int)-1-M)=er at *;clear hE;have X:=q.o.aZ (q.o.c.nS er) (q.o.ok.dr q.o.ok.store q.o.ok.dR q.o.ok.look q.o.ok.move q.o.ok.bG q.o.ok.aL);have h5:=X.aZ (X.c.gq (decide (er≠0))) (X.ok.dr X.ok.store X.ok.dR X.ok.look X.ok.move X.ok.bG X.ok.aL);have hB:=Aq h5;have nx:=Aq ((z8.o.setCell (p:=⟨mb,48,none⟩) (.inl q.o.ew) (Aj er)).setCell (p:=⟨mb,47,none⟩) (.inl q.o.ew) (.bool (decide (er≠0))));have hF:=Aq ((h1.o.dE (p:=⟨mb,48,none⟩) i1 (Aj er)).dE (p:=⟨mb,47,none⟩) i1 (.bool (decide (er≠0))));have I:=Aq ((y7.o.dE (p:=⟨mb,48,none⟩) x3.symm (Aj er)).dE (p:=⟨mb,47,none⟩) x3.symm (.bool (decide (er≠0))));have ey:∃u,w3.cell? ⟨mb,47,none⟩=some u:=⟨_,by rw[q.o.aG.cell];exact q.o.c.ey⟩;obtain⟨a3,ey⟩:=ey;have HM:=q.o.aG.frozen 47;have B:=q.o.aG.lt;clear X h5 q z8 h1 y7;go_wp2_with fail
     have b1:Hid ((next s).2.isSome = !(er != 0)∧(∀i,(next s).2=some i→i=(op,a))∧(next s).1 = { s with aD:=f::r,ai:=decide (er≠0),bp:=er }):=Aq (by
      rw[HN.o];by_cases J:er=0
      ·refine⟨by simp[J],fun i hi=>?_,rfl⟩;simp only[J,if_true]at hi;exact(oK hi).symm
      ·refine⟨by simp[J],fun i hi=>?_,rfl⟩;simp only[J,if_false]at hi;cases hi)
     clear HN;have z5:decide (er≠0)=(er != 0):=by by_cases J:er=0 <;> simp[J]
     rw[z5]at hB nx hF I b1;clear z5 ey iH HM h4 B;generalize (er != 0)=b at *;have D:=hF.o.cell 0;have F:=hF.o.cell 1;simp only[Az,Ay,Bc]at D F;have G:=I.o.cell 0;have R:=I.o.cell 1;simp only[Az,Ay,Bc]at G R;have x0:=I.o.frozen 0;have h6:=I.o.frozen 1;have bl:=I.o.lt;have ey:=hB.o.aG.cell 47;rw[hB.o.c.ey]at ey;dsimp only at ey;generalize (w3.setCell ⟨mb,48,none⟩ (Aj er)).setCell ⟨mb,47,none⟩ (.bool b)=W5 at *;have u9:=Aq ((hB.o.drew.jt (p:=⟨w.heap.size,0,none⟩) N.o (Aj op)).jt (p:=⟨w.heap.size,1,none⟩) N.o (Aj a));have u2:=Aq ((nx.o.drew.setCell (p:=⟨w.heap.size,0,none⟩) (.inr Aw) (Aj op)).setCell (p:=⟨w.heap.size,1,none⟩) (.inr Aw) (Aj a));clear hB nx hF I;go_region;go_wp2_with fail
     refine bodyPost_ret (v:=.tuple #[.agg #[Aj op,Aj a],.bool !b]) (by simp[results,Tryz.results82,go_sem,G,R]) rfl ?_;unfold Zgq;rw[b1.o.1,b1.o.2.2];exact⟨⟨op,a,rfl,b1.o.2.1⟩,⟨_,u9.o⟩,u2.o⟩
    ·by_cases h8:0<f.a_
     ·obtain⟨Z,h0⟩:∃n,f.a_=n+1:=⟨f.a_-1,by omega⟩;have hk:Kh ({ f with next:=0,a_:=Z } :: r)<Kh (f::r):=by simp[Kh,h0]
      have x6:=Sf (r:=r) c1 h8;rw[show f.a_-1=Z by omega]at x6;have hW:=fun n=>(((z.drewN n).jb (f:=f) (r:=r) rfl (y.aQ (fun _ _=>rfl) Aw) (f' := { f with a_:=Z }) (n:=Z) (j:=r.length*3+2) (by omega) rfl (Zga _ vs f r y.n_ _) ⟨v5,by simp only;omega⟩))
      have z6:∀n,∃L2,ag (((wr.drewN n).setCell ⟨g,r.length*3+2,none⟩ (Aj Z)).setCell ⟨g,r.length*3+1,none⟩ (Aj 0)) mb O L2 { s with aD := { f with next:=0,a_:=Z } :: r } := fun n=>by
       obtain⟨g',c',v',u8,x4⟩:=(hW n).bk rfl;have e1:g=g'∧c=c'∧.slice Ac f.aA.length cc=v'∧vs=u8:=by
        have Q:=x4.fr;have h2:=x4.iu;rw[y.fr]at Q;rw[y.iu]at h2
        injection Q with Q _ h3
        injection Q with Q
        injection Q with Q
        injection h2 with h2 X
        exact⟨Q,h3,h2,X⟩
       obtain⟨rfl,rfl,rfl,rfl⟩:=e1;exact⟨_,(hW n).jb (f := { f with a_:=Z }) (r:=r) rfl x4 (f' := { f with next:=0,a_:=Z }) (n:=0) (j:=r.length*3+1) (by omega) rfl (Pk _ _ _ r y.n_ _) ⟨By _,by simp only;omega⟩⟩
      have HI:Hid (∀n,lI w mb O s (Kh (f::r)) (((wr.drewN n).setCell ⟨g,r.length*3+2,none⟩ (Aj Z)).setCell ⟨g,r.length*3+1,none⟩ (Aj 0))):=Aq (fun n=>by
       obtain⟨L2,x1⟩:=z6 n;exact⟨_,L2,hk,x1,x6.trans Y,((H.drewN n).dE (p:=⟨g,r.length*3+2,none⟩) z0.symm _).dE (p:=⟨g,r.length*3+1,none⟩) z0.symm _,((E.drewN n).setCell (.inl y.gO) _).setCell (.inl y.gO) _⟩)
      rw[h0]at t2;have a6:Z≤15:=by omega
      clear hW z6 hk z Y H E y x6 h0 h8;simp only[Bo]at i0;generalize K:r.length=m at *;generalize hM:f.next=M at *;generalize hm:f.aA.length=cl at *;clear K hM hm;obtain⟨k,x7,y9,d⟩:∃k,m<k∧k≤m+1∧m+1=k:=⟨m+1,by omega,by omega,rfl⟩;rw[d]at U h7;clear d;have P:IntKind.i64.wrap ((k:Int)-1)=(m:Int):=by rw[Do _ (by omega)];omega
      go_wp2_with fail
      go_quiet (fail);go_wp2_with fail
      clear P;go_quiet (fail);go_wp2;go_roundg (Kh (f::r))
      case measure=>exact d
      case rel=>exact HI.o _
     ·have hp:=fun n=>(z.drewN n).popFm (f:=f) (r:=r) rfl (y.aQ (fun _ _=>rfl) Aw)
      have hk:Kh r<Kh (f::r):=by simp[Kh]
      have HI:Hid (∀n,lI w mb O s (Kh (f::r)) ((wr.drewN n).setCell ⟨mb,1,none⟩ (.slice (some ⟨g,0,none⟩) r.length c))):=Aq (fun n=>by
       obtain⟨L2,x1⟩:=hp n;exact⟨r,L2,hk,x1,(Wv c1 (by omega)).symm.trans Y,(H.drewN n).dE (p:=⟨mb,1,none⟩) x3.symm _,(E.drewN n).setCell (.inl z.ew) _⟩)
      have x8:f.a_=0:=by omega
      rw[x8]at t2;clear hp hk z Y H E y h8 x8;simp only[Bo]at i0;generalize K:r.length=m at *;generalize hM:f.next=M at *;generalize hm:f.aA.length=cl at *;clear K hM hm;obtain⟨k,x7,y9,d⟩:∃k,m<k∧k≤m+1∧m+1=k:=⟨m+1,by omega,by omega,rfl⟩;rw[d]at U h7;clear d;have P:IntKind.i64.wrap ((k:Int)-1)=(m:Int):=by rw[Do _ (by omega)];omega
      go_wp2_with fail
      go_quiet (fail);go_wp2_with fail
      clear P;go_quiet (fail);have P:IntKind.i64.wrap ((k:Int)-1)=(m:Int):=by rw[Do _ (by omega)];omega
      go_wp2_with fail
      rename_i n1;have C:=Aq (HI.o (n1+nq+1));have b2:(wr.drewN (n1+nq)).cell? ⟨mb,1,none⟩=some (.slice (some ⟨g,0,none⟩) k c):=U;have a7:(wr.drewN (n1+nq)).frozen? ⟨mb,1,none⟩=false:=f1;have y1:(wr.drewN (n1+nq)).drew=wr.drewN (n1+nq+1):=rfl;rw[←y1]at C;clear y1 HI U f1 t0 t1 t2 G R ey HM x0 h6 u0 y2 h4 z2;generalize wr.drewN (n1+nq)=W at *;have a4:m≤c:=by omega
      have a2:(m:Int)≤(c:Int):=by omega
      go_still_tail 14,(by kernel_rfl);change wpList _ _ _ _ _ W.drew;go_wp2;go_roundg (Kh (f::r))
      case measure=>exact d
      case rel=>exact C.o
end
section
open Go.RowKit Mc
theorem Bm {f : Nat} {fn : Func} {c : Code} (z : Tryz.prog.funcs[f]? = some fn) (x : (fn.name == "runtime.NumGoroutine") = false) (y : fn.body = some c) : ∀ args w, Sem.run Tryz.prog (callFunc f args) w = .ok (.enter f args) w :=
 fun args w=>Go.MuLone.run_callFunc_enter z x y args w
theorem Xp (w:World)(mb:Nat)(O:Nat→Prop)(L:bd)(s:St)(h:ag w mb O L s)(a:Int) :
  Calls Tryz.prog 213 #[.pointer (some ⟨mb,0,none⟩),Aj a] w (aw w mb O (Nf s (a % 2))):=by
 have z:=Aq (Zbq w mb O L s h (a % 2) (by omega));clear h;go_enter Tryz.func213,Tryz.ntmps213;go_wp2_with fail
 refine(Qk _ 2 _ (by decide) (by decide)).mono ?_;rintro e w1⟨rfl,rfl⟩;go_wp2_with fail
 refine z.o.mono ?_;intro e u x;have y:=Aq (aw.dD x.2.1 x.2.2);obtain⟨rfl,_⟩:=x;go_wp2;go_end0;exact y.o
structure bV (n:Nat) (a:Int) (s:St):Prop where
 st:aO n≤s.stack.length
 lv:s.stack.length+aV n≤32+aO n
 jump:(n=35∨n=36)→∃f r,s.aD=f::r∧0≤a∧f.next+a.toNat≤f.aA.length
 call:(n=37∨n=38)→0≤a∧a.toNat<s.funcs.length∧s.aD.length≤20
def Cd (w:World)(mb:Nat)(O:Nat→Prop)(s:St)(n:Nat)(a:Int)(bs:Nat→Nat):Prop :=
 ∃id,(Mq n).1=.func id∧(∀args w,Sem.run Tryz.prog (callFunc id args) w=.ok (.enter id args) w) ∧
  Calls Tryz.prog id (match (Mq n).2 with|some _=>#[.pointer (some ⟨mb,0,none⟩),Aj a,.pointer (some ⟨bs n,0,none⟩)]|none=>#[.pointer (some ⟨mb,0,none⟩),Aj a]) w (aw w mb O (deed n a s))
theorem jf {l:List Int}(h:1≤l.length):∃x r,l=x::r:=by
 cases l with
 |nil=>simp at h
 |cons x r=>exact⟨x,r,rfl⟩
theorem jA {l:List Int}(h:2≤l.length):∃y x r,l=y::x::r:=by
 match l,h with
 |y::x::r,_=>exact⟨y,x,r,rfl⟩
 | [_],h=>simp at h
 | [],h=>simp at h
section
variable {w : World} {mb : Nat} {O : Nat → Prop} {L : bd} {s : St} {a : Int} {bs : Nat → Nat}
theorem dc1 (h:ag w mb O L s)(x:bV 1 a s)(_hb:DeedBox w O bs 1):Cd w mb O s 1 a bs:=by
 refine⟨_,rfl,(Bm Tryz.func166 (by kernel_rfl) rfl),?_⟩;have e:deed ((1:Nat):Int) a s=push a s:=rfl;rw[e];exact Zad w mb O L s h a (by have:=x.lv;simp[aO,aV]at this;omega)
theorem dc2 (h:ag w mb O L s)(z:bV 2 a s)(_hb:DeedBox w O bs 2):Cd w mb O s 2 a bs:=by
 obtain⟨x,r,y⟩:=jf (l:=s.stack) (by have:=z.st;simpa [aO]using this);refine⟨_,rfl,(Bm Tryz.func168 (by kernel_rfl) rfl),?_⟩;have e:deed ((2:Nat):Int) a s = { s with stack:=r } := by
  have u:deed ((2:Nat):Int) a s = { s with stack:=(s.stack.drop 1) } := rfl;rw[u,y];rfl
 rw[e];exact Zfa w mb O L s h a x r y
theorem dc3 (h:ag w mb O L s)(z:bV 3 a s)(_hb:DeedBox w O bs 3):Cd w mb O s 3 a bs:=by
 obtain⟨x,r,y⟩:=jf (l:=s.stack) (by have:=z.st;simpa [aO]using this);refine⟨_,rfl,(Bm Tryz.func170 (by kernel_rfl) rfl),?_⟩;have e:deed ((3:Nat):Int) a s=push x (push x { s with stack:=r }):=by
  have u:deed ((3:Nat):Int) a s=push (s.stack.getD 0 0) (push (s.stack.getD 0 0) { s with stack:=(s.stack.drop 1) }):=rfl;rw[u,y];rfl
 rw[e];exact Zgd w mb O L s h a x r y (by have:=z.lv;simp[aO,aV]at this;omega)
theorem dc4 (h:ag w mb O L s)(u:bV 4 a s)(_hb:DeedBox w O bs 4):Cd w mb O s 4 a bs:=by
 obtain⟨y,x,r,z⟩:=jA (l:=s.stack) (by have:=u.st;simpa [aO]using this);refine⟨_,rfl,(Bm Tryz.func171 (by kernel_rfl) rfl),?_⟩;have e:deed ((4:Nat):Int) a s=push x (push y { s with stack:=r }):=by
  have v:deed ((4:Nat):Int) a s=push (s.stack.getD 1 0) (push (s.stack.getD 0 0) { s with stack:=(s.stack.drop 2) }):=rfl;rw[v,z];rfl
 rw[e];exact Yz w mb O L s h a x y r z
theorem dc5 (h:ag w mb O L s)(v:bV 5 a s)(p:DeedBox w O bs 5):Cd w mb O s 5 a bs:=by
 obtain⟨y,x,r,z⟩:=jA (l:=s.stack) (by have:=v.st;simpa [aO]using this);refine⟨_,rfl,(Bm Tryz.func250 (by kernel_rfl) rfl),?_⟩;have e:deed ((5:Nat):Int) a s=push (x+y) { s with stack:=r } := by
  have k:deed ((5:Nat):Int) a s=push ((s.stack.getD 1 0)+(s.stack.getD 0 0)) { s with stack:=s.stack.drop 2 } := rfl;rw[k,z];rfl
 rw[e];exact Gh w mb O L s h a x y r z (bs 5) _ p.2 _ (Bm Tryz.func173 (by kernel_rfl) rfl) (fun w q u=>d5 x y w q u)
theorem dc6 (h:ag w mb O L s)(v:bV 6 a s)(p:DeedBox w O bs 6):Cd w mb O s 6 a bs:=by
 obtain⟨y,x,r,z⟩:=jA (l:=s.stack) (by have:=v.st;simpa [aO]using this);refine⟨_,rfl,(Bm Tryz.func250 (by kernel_rfl) rfl),?_⟩;have e:deed ((6:Nat):Int) a s=push (x-y) { s with stack:=r } := by
  have k:deed ((6:Nat):Int) a s=push ((s.stack.getD 1 0)-(s.stack.getD 0 0)) { s with stack:=s.stack.drop 2 } := rfl;rw[k,z];rfl
 rw[e];exact Gh w mb O L s h a x y r z (bs 6) _ p.2 _ (Bm Tryz.func174 (by kernel_rfl) rfl) (fun w q u=>d6 x y w q u)
theorem dc7 (h:ag w mb O L s)(v:bV 7 a s)(p:DeedBox w O bs 7):Cd w mb O s 7 a bs:=by
 obtain⟨y,x,r,z⟩:=jA (l:=s.stack) (by have:=v.st;simpa [aO]using this);refine⟨_,rfl,(Bm Tryz.func250 (by kernel_rfl) rfl),?_⟩;have e:deed ((7:Nat):Int) a s=push (bA (x*y / 64)) { s with stack:=r } := by
  have k:deed ((7:Nat):Int) a s=push (bA ((s.stack.getD 1 0)*(s.stack.getD 0 0) / 64)) { s with stack:=s.stack.drop 2 } := rfl;rw[k,z];rfl
 rw[e];exact Gh w mb O L s h a x y r z (bs 7) _ p.2 _ (Bm Tryz.func175 (by kernel_rfl) rfl) (fun w q u=>d7 x y w q u)
theorem dc8 (h:ag w mb O L s)(v:bV 8 a s)(p:DeedBox w O bs 8):Cd w mb O s 8 a bs:=by
 obtain⟨y,x,r,z⟩:=jA (l:=s.stack) (by have:=v.st;simpa [aO]using this);refine⟨_,rfl,(Bm Tryz.func250 (by kernel_rfl) rfl),?_⟩;have e:deed ((8:Nat):Int) a s=push (bA (eT (64*x) y)) { s with stack:=r } := by
  have k:deed ((8:Nat):Int) a s=push (bA (eT (64*(s.stack.getD 1 0)) (s.stack.getD 0 0))) { s with stack:=s.stack.drop 2 } := rfl;rw[k,z];rfl
 rw[e];exact Gh w mb O L s h a x y r z (bs 8) _ p.2 _ (Bm Tryz.func177 (by kernel_rfl) rfl) (fun w q u=>d8 x y w q u)
theorem dc9 (h:ag w mb O L s)(z:bV 9 a s)(v:DeedBox w O bs 9):Cd w mb O s 9 a bs:=by
 obtain⟨x,r,y⟩:=jf (l:=s.stack) (by have:=z.st;simpa [aO]using this);refine⟨_,rfl,(Bm Tryz.func251 (by kernel_rfl) rfl),?_⟩;have e:deed ((9:Nat):Int) a s=push (-x) { s with stack:=r } := by
  have u:deed ((9:Nat):Int) a s=push (-(s.stack.getD 0 0)) { s with stack:=s.stack.drop 1 } := rfl;rw[u,y];rfl
 rw[e];exact Ma w mb O L s h a x r y (bs 9) _ v.2 _ (Bm Tryz.func180 (by kernel_rfl) rfl) (fun w k=>d9 x w k)
theorem dc10 (h:ag w mb O L s)(z:bV 10 a s)(v:DeedBox w O bs 10):Cd w mb O s 10 a bs:=by
 obtain⟨x,r,y⟩:=jf (l:=s.stack) (by have:=z.st;simpa [aO]using this);refine⟨_,rfl,(Bm Tryz.func251 (by kernel_rfl) rfl),?_⟩;have e:deed ((10:Nat):Int) a s=push (max x (-x)) { s with stack:=r } := by
  have u:deed ((10:Nat):Int) a s=push (max (s.stack.getD 0 0) (-(s.stack.getD 0 0))) { s with stack:=s.stack.drop 1 } := rfl;rw[u,y];rfl
 rw[e];exact Ma w mb O L s h a x r y (bs 10) _ v.2 _ (Bm Tryz.func181 (by kernel_rfl) rfl) (fun w k=>kE x w k)
theorem dc11 (h:ag w mb O L s)(v:bV 11 a s)(p:DeedBox w O bs 11):Cd w mb O s 11 a bs:=by
 obtain⟨y,x,r,z⟩:=jA (l:=s.stack) (by have:=v.st;simpa [aO]using this);refine⟨_,rfl,(Bm Tryz.func250 (by kernel_rfl) rfl),?_⟩;have e:deed ((11:Nat):Int) a s=push (min x y) { s with stack:=r } := by
  have k:deed ((11:Nat):Int) a s=push (min (s.stack.getD 1 0) (s.stack.getD 0 0)) { s with stack:=s.stack.drop 2 } := rfl;rw[k,z];rfl
 rw[e];exact Gh w mb O L s h a x y r z (bs 11) _ p.2 _ (Bm Tryz.func182 (by kernel_rfl) rfl) (fun w q u=>iq x y w q u)
theorem dc12 (h:ag w mb O L s)(v:bV 12 a s)(p:DeedBox w O bs 12):Cd w mb O s 12 a bs:=by
 obtain⟨y,x,r,z⟩:=jA (l:=s.stack) (by have:=v.st;simpa [aO]using this);refine⟨_,rfl,(Bm Tryz.func250 (by kernel_rfl) rfl),?_⟩;have e:deed ((12:Nat):Int) a s=push (max x y) { s with stack:=r } := by
  have k:deed ((12:Nat):Int) a s=push (max (s.stack.getD 1 0) (s.stack.getD 0 0)) { s with stack:=s.stack.drop 2 } := rfl;rw[k,z];rfl
 rw[e];exact Gh w mb O L s h a x y r z (bs 12) _ p.2 _ (Bm Tryz.func183 (by kernel_rfl) rfl) (fun w q u=>jH x y w q u)
theorem dc13 (h:ag w mb O L s)(z:bV 13 a s)(v:DeedBox w O bs 13):Cd w mb O s 13 a bs:=by
 obtain⟨x,r,y⟩:=jf (l:=s.stack) (by have:=z.st;simpa [aO]using this);refine⟨_,rfl,(Bm Tryz.func251 (by kernel_rfl) rfl),?_⟩;have e:deed ((13:Nat):Int) a s=push (Cx 4 x) { s with stack:=r } := by
  have u:deed ((13:Nat):Int) a s=push (Cx 4 (s.stack.getD 0 0)) { s with stack:=s.stack.drop 1 } := rfl;rw[u,y];rfl
 rw[e];exact Ma w mb O L s h a x r y (bs 13) _ v.2 _ (Bm Tryz.func184 (by kernel_rfl) rfl) (fun w k=>nU x w k)
theorem dc14 (h:ag w mb O L s)(z:bV 14 a s)(v:DeedBox w O bs 14):Cd w mb O s 14 a bs:=by
 obtain⟨x,r,y⟩:=jf (l:=s.stack) (by have:=z.st;simpa [aO]using this);refine⟨_,rfl,(Bm Tryz.func251 (by kernel_rfl) rfl),?_⟩;have e:deed ((14:Nat):Int) a s=push (Cx 5 x) { s with stack:=r } := by
  have u:deed ((14:Nat):Int) a s=push (Cx 5 (s.stack.getD 0 0)) { s with stack:=s.stack.drop 1 } := rfl;rw[u,y];rfl
 rw[e];exact Ma w mb O L s h a x r y (bs 14) _ v.2 _ (Bm Tryz.func185 (by kernel_rfl) rfl) (fun w k=>nW x w k)
theorem dc15 (h:ag w mb O L s)(z:bV 15 a s)(_hb:DeedBox w O bs 15):Cd w mb O s 15 a bs:=by
 obtain⟨x,r,y⟩:=jf (l:=s.stack) (by have:=z.st;simpa [aO]using this);refine⟨_,rfl,(Bm Tryz.func186 (by kernel_rfl) rfl),?_⟩;have e:deed ((15:Nat):Int) a s=push (Cx s.bG x) { s with stack:=r } := by
  have u:deed ((15:Nat):Int) a s=push (Cx s.bG (s.stack.getD 0 0)) { s with stack:=(s.stack.drop 1) } := rfl;rw[u,y];rfl
 rw[e];exact Wz w mb O L s h a x r y
theorem dc16 (h:ag w mb O L s)(v:bV 16 a s)(p:DeedBox w O bs 16):Cd w mb O s 16 a bs:=by
 obtain⟨y,x,r,z⟩:=jA (l:=s.stack) (by have:=v.st;simpa [aO]using this);refine⟨_,rfl,(Bm Tryz.func250 (by kernel_rfl) rfl),?_⟩;have e:deed ((16:Nat):Int) a s=push (bC (decide (x<y))) { s with stack:=r } := by
  have k:deed ((16:Nat):Int) a s=push (bC (decide ((s.stack.getD 1 0)<(s.stack.getD 0 0)))) { s with stack:=s.stack.drop 2 } := rfl;rw[k,z];rfl
 rw[e];exact Gh w mb O L s h a x y r z (bs 16) _ p.2 _ (Bm Tryz.func187 (by kernel_rfl) rfl) (fun w q u=>mW x y w q u)
theorem dc17 (h:ag w mb O L s)(v:bV 17 a s)(p:DeedBox w O bs 17):Cd w mb O s 17 a bs:=by
 obtain⟨y,x,r,z⟩:=jA (l:=s.stack) (by have:=v.st;simpa [aO]using this);refine⟨_,rfl,(Bm Tryz.func250 (by kernel_rfl) rfl),?_⟩;have e:deed ((17:Nat):Int) a s=push (bC (decide (x≤y))) { s with stack:=r } := by
  have k:deed ((17:Nat):Int) a s=push (bC (decide ((s.stack.getD 1 0)≤(s.stack.getD 0 0)))) { s with stack:=s.stack.drop 2 } := rfl;rw[k,z];rfl
 rw[e];exact Gh w mb O L s h a x y r z (bs 17) _ p.2 _ (Bm Tryz.func189 (by kernel_rfl) rfl) (fun w q u=>lB x y w q u)
theorem dc18 (h:ag w mb O L s)(v:bV 18 a s)(p:DeedBox w O bs 18):Cd w mb O s 18 a bs:=by
 obtain⟨y,x,r,z⟩:=jA (l:=s.stack) (by have:=v.st;simpa [aO]using this);refine⟨_,rfl,(Bm Tryz.func250 (by kernel_rfl) rfl),?_⟩;have e:deed ((18:Nat):Int) a s=push (bC (decide (x=y))) { s with stack:=r } := by
  have k:deed ((18:Nat):Int) a s=push (bC (decide ((s.stack.getD 1 0)=(s.stack.getD 0 0)))) { s with stack:=s.stack.drop 2 } := rfl;rw[k,z];rfl
 rw[e];exact Gh w mb O L s h a x y r z (bs 18) _ p.2 _ (Bm Tryz.func190 (by kernel_rfl) rfl) (fun w q u=>d18 x y w q u)
theorem dc19 (h:ag w mb O L s)(z:bV 19 a s)(v:DeedBox w O bs 19):Cd w mb O s 19 a bs:=by
 obtain⟨x,r,y⟩:=jf (l:=s.stack) (by have:=z.st;simpa [aO]using this);refine⟨_,rfl,(Bm Tryz.func251 (by kernel_rfl) rfl),?_⟩;have e:deed ((19:Nat):Int) a s=push (bC (decide (x=0))) { s with stack:=r } := by
  have u:deed ((19:Nat):Int) a s=push (bC (decide ((s.stack.getD 0 0)=0))) { s with stack:=s.stack.drop 1 } := rfl;rw[u,y];rfl
 rw[e];exact Ma w mb O L s h a x r y (bs 19) _ v.2 _ (Bm Tryz.func191 (by kernel_rfl) rfl) (fun w k=>d19 x w k)
theorem dc20 (h:ag w mb O L s)(v:bV 20 a s)(p:DeedBox w O bs 20):Cd w mb O s 20 a bs:=by
 obtain⟨y,x,r,z⟩:=jA (l:=s.stack) (by have:=v.st;simpa [aO]using this);refine⟨_,rfl,(Bm Tryz.func250 (by kernel_rfl) rfl),?_⟩;have e:deed ((20:Nat):Int) a s=push (bC (decide (x≠0∧y≠0))) { s with stack:=r } := by
  have k:deed ((20:Nat):Int) a s=push (bC (decide ((s.stack.getD 1 0)≠0∧(s.stack.getD 0 0)≠0))) { s with stack:=s.stack.drop 2 } := rfl;rw[k,z];rfl
 rw[e];exact Gh w mb O L s h a x y r z (bs 20) _ p.2 _ (Bm Tryz.func192 (by kernel_rfl) rfl) (fun w q u=>d20 x y w q u)
theorem dc21 (h:ag w mb O L s)(v:bV 21 a s)(p:DeedBox w O bs 21):Cd w mb O s 21 a bs:=by
 obtain⟨y,x,r,z⟩:=jA (l:=s.stack) (by have:=v.st;simpa [aO]using this);refine⟨_,rfl,(Bm Tryz.func250 (by kernel_rfl) rfl),?_⟩;have e:deed ((21:Nat):Int) a s=push (bC (decide (x≠0∨y≠0))) { s with stack:=r } := by
  have k:deed ((21:Nat):Int) a s=push (bC (decide ((s.stack.getD 1 0)≠0∨(s.stack.getD 0 0)≠0))) { s with stack:=s.stack.drop 2 } := rfl;rw[k,z];rfl
 rw[e];exact Gh w mb O L s h a x y r z (bs 21) _ p.2 _ (Bm Tryz.func193 (by kernel_rfl) rfl) (fun w q u=>d21 x y w q u)
theorem dc22 (h:ag w mb O L s)(_hc:bV 22 a s)(_hb:DeedBox w O bs 22):Cd w mb O s 22 a bs:=by
 refine⟨_,rfl,(Bm Tryz.func194 (by kernel_rfl) rfl),?_⟩;have e:deed ((22:Nat):Int) a s = { s with look:=a % 2 } := rfl;rw[e];exact Zag w mb O L s h a
theorem dc23 (h:ag w mb O L s)(_hc:bV 23 a s)(_hb:DeedBox w O bs 23):Cd w mb O s 23 a bs:=by
 refine⟨_,rfl,(Bm Tryz.func196 (by kernel_rfl) rfl),?_⟩;have e:deed ((23:Nat):Int) a s = { s with move:=a % 2 } := rfl;rw[e];exact Zcf w mb O L s h a
theorem dc24 (h:ag w mb O L s)(_hc:bV 24 a s)(_hb:DeedBox w O bs 24):Cd w mb O s 24 a bs:=by
 refine⟨_,rfl,(Bm Tryz.func197 (by kernel_rfl) rfl),?_⟩;have e:deed ((24:Nat):Int) a s = { s with bG:=a % 6 } := rfl;rw[e];exact Zbb w mb O L s h a
theorem dc25 (h:ag w mb O L s)(z:bV 25 a s)(_hb:DeedBox w O bs 25):Cd w mb O s 25 a bs:=by
 obtain⟨x,r,y⟩:=jf (l:=s.stack) (by have:=z.st;simpa [aO]using this);refine⟨_,rfl,(Bm Tryz.func198 (by kernel_rfl) rfl),?_⟩;have e:deed ((25:Nat):Int) a s=push (aK s.aP x) { s with stack:=r } := by
  have u:deed ((25:Nat):Int) a s=push (aK s.aP (s.stack.getD 0 0)) { s with stack:=(s.stack.drop 1) } := rfl;rw[u,y];rfl
 rw[e];exact Zgh w mb O L s h a x r y
theorem dc26 (h:ag w mb O L s)(u:bV 26 a s)(_hb:DeedBox w O bs 26):Cd w mb O s 26 a bs:=by
 obtain⟨y,x,r,z⟩:=jA (l:=s.stack) (by have:=u.st;simpa [aO]using this);refine⟨_,rfl,(Bm Tryz.func200 (by kernel_rfl) rfl),?_⟩;have e:deed ((26:Nat):Int) a s = { s with stack:=r,aP:=Ip s.aP x y } := by
  have v:deed ((26:Nat):Int) a s = { s with stack:=(s.stack.drop 2),aP:=Ip s.aP (s.stack.getD 1 0) (s.stack.getD 0 0) } := rfl;rw[v,z];rfl
 rw[e];exact Sg w mb O L s h a x y r z
theorem dc27 (h:ag w mb O L s)(z:bV 27 a s)(_hb:DeedBox w O bs 27):Cd w mb O s 27 a bs:=by
 obtain⟨x,r,y⟩:=jf (l:=s.stack) (by have:=z.st;simpa [aO]using this);refine⟨_,rfl,(Bm Tryz.func202 (by kernel_rfl) rfl),?_⟩;have e:deed ((27:Nat):Int) a s=push (aK s.store x) { s with stack:=r } := by
  have u:deed ((27:Nat):Int) a s=push (aK s.store (s.stack.getD 0 0)) { s with stack:=(s.stack.drop 1) } := rfl;rw[u,y];rfl
 rw[e];exact Zbk w mb O L s h a x r y
theorem dc28 (h:ag w mb O L s)(u:bV 28 a s)(_hb:DeedBox w O bs 28):Cd w mb O s 28 a bs:=by
 obtain⟨y,x,r,z⟩:=jA (l:=s.stack) (by have:=u.st;simpa [aO]using this);refine⟨_,rfl,(Bm Tryz.func203 (by kernel_rfl) rfl),?_⟩;have e:deed ((28:Nat):Int) a s = { s with stack:=r,store:=Ip s.store x y } := by
  have v:deed ((28:Nat):Int) a s = { s with stack:=(s.stack.drop 2),store:=Ip s.store (s.stack.getD 1 0) (s.stack.getD 0 0) } := rfl;rw[v,z];rfl
 rw[e];exact Zl w mb O L s h a x y r z
theorem dc29 (h:ag w mb O L s)(z:bV 29 a s)(_hb:DeedBox w O bs 29):Cd w mb O s 29 a bs:=by
 obtain⟨x,r,y⟩:=jf (l:=s.stack) (by have:=z.st;simpa [aO]using this);refine⟨_,rfl,(Bm Tryz.func204 (by kernel_rfl) rfl),?_⟩;have e:deed ((29:Nat):Int) a s=push (Mg s s.aF x) { s with stack:=r } := by
  have u:deed ((29:Nat):Int) a s=push (Mg s s.aF (s.stack.getD 0 0)) { s with stack:=(s.stack.drop 1) } := rfl;rw[u,y];rfl
 rw[e];exact Zfy w mb O L s h a x r y
theorem dc30 (h:ag w mb O L s)(z:bV 30 a s)(_hb:DeedBox w O bs 30):Cd w mb O s 30 a bs:=by
 obtain⟨x,r,y⟩:=jf (l:=s.stack) (by have:=z.st;simpa [aO]using this);refine⟨_,rfl,(Bm Tryz.func206 (by kernel_rfl) rfl),?_⟩;have e:deed ((30:Nat):Int) a s=push (Mg s s.aT x) { s with stack:=r } := by
  have u:deed ((30:Nat):Int) a s=push (Mg s s.aT (s.stack.getD 0 0)) { s with stack:=(s.stack.drop 1) } := rfl;rw[u,y];rfl
 rw[e];exact Zfd w mb O L s h a x r y
theorem dc31 (h:ag w mb O L s)(u:bV 31 a s)(_hb:DeedBox w O bs 31):Cd w mb O s 31 a bs:=by
 obtain⟨y,x,r,z⟩:=jA (l:=s.stack) (by have:=u.st;simpa [aO]using this);refine⟨_,rfl,(Bm Tryz.func207 (by kernel_rfl) rfl),?_⟩;have e:deed ((31:Nat):Int) a s=Qt s r x y:=by
  have v:deed ((31:Nat):Int) a s=Qt s (s.stack.drop 2) (s.stack.getD 1 0) (s.stack.getD 0 0):=rfl;rw[v,z];rfl
 rw[e];exact Zaz w mb O L s h a x y r z
theorem dc32 (h:ag w mb O L s)(u:bV 32 a s)(_hb:DeedBox w O bs 32):Cd w mb O s 32 a bs:=by
 obtain⟨y,x,r,z⟩:=jA (l:=s.stack) (by have:=u.st;simpa [aO]using this);refine⟨_,rfl,(Bm Tryz.func209 (by kernel_rfl) rfl),?_⟩;have e:deed ((32:Nat):Int) a s=mI s r x y:=by
  have v:deed ((32:Nat):Int) a s=mI s (s.stack.drop 2) (s.stack.getD 1 0) (s.stack.getD 0 0):=rfl;rw[v,z];rfl
 rw[e];exact Zep w mb O L s h a x y r z
theorem dc33 (h:ag w mb O L s)(u:bV 33 a s)(_hb:DeedBox w O bs 33):Cd w mb O s 33 a bs:=by
 obtain⟨y,x,r,z⟩:=jA (l:=s.stack) (by have:=u.st;simpa [aO]using this);refine⟨_,rfl,(Bm Tryz.func211 (by kernel_rfl) rfl),?_⟩;have e:deed ((33:Nat):Int) a s=Ky s r x y:=by
  have v:deed ((33:Nat):Int) a s=Ky s (s.stack.drop 2) (s.stack.getD 1 0) (s.stack.getD 0 0):=rfl;rw[v,z];rfl
 rw[e];exact Ye w mb O L s h a x y r z
theorem dc34 (h:ag w mb O L s)(_hc:bV 34 a s)(_hb:DeedBox w O bs 34):Cd w mb O s 34 a bs:=by
 refine⟨_,rfl,(Bm Tryz.func213 (by kernel_rfl) rfl),?_⟩;have e:deed ((34:Nat):Int) a s=Nf s (a % 2):=rfl;rw[e];exact Xp w mb O L s h a
theorem dc35 (h:ag w mb O L s)(y:bV 35 a s)(_hb:DeedBox w O bs 35):Cd w mb O s 35 a bs:=by
 obtain⟨f,r,z,u,x⟩:=y.jump (.inl rfl);obtain⟨m,rfl⟩:=Ds u;refine⟨_,rfl,(Bm Tryz.func215 (by kernel_rfl) rfl),?_⟩;have e:deed ((35:Nat):Int) (m:Int) s=bv s m:=rfl;rw[e];exact Zbo w mb O L s h f r z m (by simpa using x)
theorem dc36 (h:ag w mb O L s)(z:bV 36 a s)(_hb:DeedBox w O bs 36):Cd w mb O s 36 a bs:=by
 obtain⟨f,r,k,p,u⟩:=z.jump (.inr rfl);obtain⟨m,rfl⟩:=Ds p;obtain⟨x,l,y⟩:=jf (l:=s.stack) (by have:=z.st;simpa [aO]using this);refine⟨_,rfl,(Bm Tryz.func217 (by kernel_rfl) rfl),?_⟩;have e:deed ((36:Nat):Int) (m:Int) s=Ks s l x m:=by
  have v:deed ((36:Nat):Int) (m:Int) s=Ks s (s.stack.drop 1) (s.stack.getD 0 0) m:=rfl;rw[v,y];rfl
 rw[e];exact Xl w mb O L s h x l y f r k m (by simpa using u)
theorem dc37 (h:ag w mb O L s)(y:bV 37 a s)(_hb:DeedBox w O bs 37):Cd w mb O s 37 a bs:=by
 obtain⟨u,z,x⟩:=y.call (.inl rfl);obtain⟨m,rfl⟩:=Ds u;refine⟨_,rfl,(Bm Tryz.func219 (by kernel_rfl) rfl),?_⟩;have e:deed ((37:Nat):Int) (m:Int) s=call s m 1:=rfl;rw[e];exact Yc w mb O L s h m (by simpa using z) x
theorem dc38 (h:ag w mb O L s)(z:bV 38 a s)(_hb:DeedBox w O bs 38):Cd w mb O s 38 a bs:=by
 obtain⟨p,k,u⟩:=z.call (.inr rfl);obtain⟨m,rfl⟩:=Ds p;obtain⟨x,l,y⟩:=jf (l:=s.stack) (by have:=z.st;simpa [aO]using this);refine⟨_,rfl,(Bm Tryz.func221 (by kernel_rfl) rfl),?_⟩;have e:deed ((38:Nat):Int) (m:Int) s=call { s with stack:=l } m (min x 16):=by
  have v:deed ((38:Nat):Int) (m:Int) s=call { s with stack:=s.stack.drop 1 } m (min (s.stack.getD 0 0) 16):=rfl;rw[v,y];rfl
 rw[e];exact Zbi w mb O L s h x l y m (by simpa using k) u
theorem dc39 (h:ag w mb O L s)(x:bV 39 a s)(_hb:DeedBox w O bs 39):Cd w mb O s 39 a bs:=by
 refine⟨_,rfl,(Bm Tryz.func223 (by kernel_rfl) rfl),?_⟩;have e:deed ((39:Nat):Int) a s=push s.size s:=rfl;rw[e];exact Ze w mb O L s h a (by have:=x.lv;simp[aO,aV]at this;omega)
theorem Zgg (h:ag w mb O L s){n:Nat}(u:1≤n)(z:n≤39)(x:bV n a s)(y:DeedBox w O bs n):Cd w mb O s n a bs:=by
 match n,u,z,x,y with
 |1,_,_,x,y=>exact dc1 h x y
 |2,_,_,x,y=>exact dc2 h x y
 |3,_,_,x,y=>exact dc3 h x y
 |4,_,_,x,y=>exact dc4 h x y
 |5,_,_,x,y=>exact dc5 h x y
 |6,_,_,x,y=>exact dc6 h x y
 |7,_,_,x,y=>exact dc7 h x y
 |8,_,_,x,y=>exact dc8 h x y
 |9,_,_,x,y=>exact dc9 h x y
 |10,_,_,x,y=>exact dc10 h x y
 |11,_,_,x,y=>exact dc11 h x y
 |12,_,_,x,y=>exact dc12 h x y
 |13,_,_,x,y=>exact dc13 h x y
 |14,_,_,x,y=>exact dc14 h x y
 |15,_,_,x,y=>exact dc15 h x y
 |16,_,_,x,y=>exact dc16 h x y
 |17,_,_,x,y=>exact dc17 h x y
 |18,_,_,x,y=>exact dc18 h x y
 |19,_,_,x,y=>exact dc19 h x y
 |20,_,_,x,y=>exact dc20 h x y
 |21,_,_,x,y=>exact dc21 h x y
 |22,_,_,x,y=>exact dc22 h x y
 |23,_,_,x,y=>exact dc23 h x y
 |24,_,_,x,y=>exact dc24 h x y
 |25,_,_,x,y=>exact dc25 h x y
 |26,_,_,x,y=>exact dc26 h x y
 |27,_,_,x,y=>exact dc27 h x y
 |28,_,_,x,y=>exact dc28 h x y
 |29,_,_,x,y=>exact dc29 h x y
 |30,_,_,x,y=>exact dc30 h x y
 |31,_,_,x,y=>exact dc31 h x y
 |32,_,_,x,y=>exact dc32 h x y
 |33,_,_,x,y=>exact dc33 h x y
 |34,_,_,x,y=>exact dc34 h x y
 |35,_,_,x,y=>exact dc35 h x y
 |36,_,_,x,y=>exact dc36 h x y
 |37,_,_,x,y=>exact dc37 h x y
 |38,_,_,x,y=>exact dc38 h x y
 |39,_,_,x,y=>exact dc39 h x y
 |n+40,_,z,_,_=>omega
end
end
section
open Go.RowKit Mc Go.ChangeMaps
def Iv:Nat→Nat
 |0=>1
 |1=>39
 |2=>40
 |3=>5
 |4=>6
 |5=>7
 |6=>8
 |7=>9
 |8=>10
 |9=>11
 |10=>12
 |11=>13
 |12=>14
 |13=>15
 |14=>16
 |15=>17
 |16=>18
 |17=>19
 |18=>20
 |19=>21
 |20=>25
 |21=>26
 |22=>27
 |23=>28
 |24=>22
 |25=>23
 |26=>24
 |27=>29
 |28=>30
 |29=>31
 |30=>32
 |31=>33
 |32=>34
 |33=>35
 |34=>36
 |_=>41
def m_:Nat→Fn×Option (TypeId×Fn)
 |0=>(.func 102,none)
 |1=>(.func 103,none)
 |2=>(.func 224,some (117,.func 105))
 |3=>(.func 225,some (74,.func 107))
 |4=>(.func 225,some (74,.func 108))
 |5=>(.func 225,some (74,.func 109))
 |6=>(.func 225,some (74,.func 110))
 |7=>(.func 224,some (117,.func 112))
 |8=>(.func 224,some (117,.func 113))
 |9=>(.func 225,some (74,.func 114))
 |10=>(.func 225,some (74,.func 115))
 |11=>(.func 224,some (117,.func 116))
 |12=>(.func 224,some (117,.func 118))
 |13=>(.func 119,none)
 |14=>(.func 225,some (74,.func 120))
 |15=>(.func 225,some (74,.func 122))
 |16=>(.func 225,some (74,.func 123))
 |17=>(.func 224,some (117,.func 124))
 |18=>(.func 225,some (74,.func 125))
 |19=>(.func 225,some (74,.func 126))
 |20=>(.func 127,none)
 |21=>(.func 129,none)
 |22=>(.func 131,none)
 |23=>(.func 132,none)
 |24=>(.func 133,none)
 |25=>(.func 135,none)
 |26=>(.func 136,none)
 |27=>(.func 137,none)
 |28=>(.func 139,none)
 |29=>(.func 140,none)
 |30=>(.func 142,none)
 |31=>(.func 144,none)
 |32=>(.func 146,none)
 |33=>(.func 148,none)
 |34=>(.func 149,none)
 |_=>(.func 151,none)
def kJ (bs:Nat→Nat)(i:Nat):Value:=.func (m_ i).1 #[] (match (m_ i).2 with|some _=>#[.pointer (some ⟨bs i,0,none⟩)]|none=>#[])
def Vq (bs:Nat→Nat)(n:Nat):List MapEntry:=(List.range n).map fun i=>⟨Aj (Iv i:Int),kJ bs i,i⟩
def DoBox (w:World)(O:Nat→Prop)(bs:Nat→Nat)(i:Nat):Prop:=match (m_ i).2 with|some (t,f)=>O (bs i)∧aH w (bs i) t #[.func f #[] #[]]|none=>True
theorem Vo:∀i,i<36→∀j,j<i→Iv i≠Iv j:=by decide
theorem Vp:∀k:Nat,k<43→(Sr.cP (k:Int)).2=true→k≠42→∃i,i<36∧Iv i=k:=by decide
def iV (w0:World)(n:Nat)(W:World):Prop :=
 ∃bs,W.heap[w0.heap.size]?=some (.map (Vq bs n).toArray n)∧(∀i,i<n→DoBox W (fun k=>w0.heap.size<k∧k<W.heap.size) bs i)∧Below w0.heap.size w0 W
theorem Zcj (bs:Nat→Nat)(n:Nat):Vq bs (n+1)=Vq bs n++[⟨Aj (Iv n:Int),kJ bs n,n⟩]:=by
 unfold Vq;rw[ge,nt];rfl
theorem Ya {bs bs':Nat→Nat}{n:Nat}(h:∀i,i<n→bs i=bs' i):Vq bs n=Vq bs' n:=by
 unfold Vq;refine pm fun i hi=>?_
 have:=List.mem_range.1 hi;unfold kJ;rw[h i this]
theorem Zck {bs:Nat→Nat}{n:Nat}(y:n<36):∀e∈(Vq bs n),∃b,e.key=Aj b∧(Iv n:Int)≠b:=by
 intro e x;unfold Vq at x;obtain⟨i,hi,rfl⟩:=List.mem_map.1 x;have:=List.mem_range.1 hi;exact⟨_,rfl,by have:=Vo n y i this;omega⟩
theorem DoBox.aQ {W W':World}{O O':Nat→Prop}{bs bs':Nat→Nat}{i:Nat}(h:DoBox W O bs i)(x:bs i=bs' i)(z:∀g t cs,aH W g t cs→O g→aH W' g t cs)(y:∀k,O k→O' k):DoBox W' O' bs' i:=by
 unfold DoBox at h ⊢;split at h
 ·exact⟨y _ (x ▸ h.1),z _ _ _ (x ▸ h.2) (x ▸ h.1)⟩
 ·trivial
theorem iV.add {w0 W:World}{n:Nat}(h:iV w0 n W)(a:n<36)(v:Value)(b:Nat) (r:v=kJ (fun _=>b) n) (c:DoBox W (fun k=>w0.heap.size<k∧k<W.heap.size) (fun _=>b) n) :
  ∃es,W.heap[w0.heap.size]?=some (.map es n)∧(∀e∈es.toList,∃b,e.key=Aj b∧(Iv n:Int)≠b)∧iV w0 (n+1) (setBlock W w0.heap.size (.map (es.push ⟨Aj (Iv n:Int),v,n⟩) (n+1))):=by
 obtain⟨bs,y,s,x⟩:=h;have d:w0.heap.size<W.heap.size:=(bN.1 y).1;refine⟨_,y,Zck a,fun i=>if i=n then b else bs i,?_,?_,?_⟩
 ·simp only[setBlock];rw[Dw d,Zcj,Ya (bs:=fun i=>if i=n then b else bs i) (bs':=bs) (fun i hi=>by rw[if_neg (by omega)])];subst r;unfold kJ;simp
 ·intro i hi;have q:∀k,(w0.heap.size<k∧k<W.heap.size)→(w0.heap.size<k∧k<(setBlock W w0.heap.size (.map ((Vq bs n).toArray.push ⟨Aj (Iv n:Int),v,n⟩) (n+1))).heap.size):=fun k z=>by simpa [setBlock]using z
  by_cases p:i=n
  ·subst p;exact c.aQ (by simp) (fun g t cs u _=>Gw y u) q
  ·exact(s i (by omega)).aQ (by rw[if_neg p]) (fun g t cs u _=>Gw y u) q
 ·exact⟨x.os,x.tape,x.output,by simpa [setBlock]using x.size,fun k z=>by
   simp only[setBlock];rw[Ax (by omega)];exact x.block k z⟩
theorem iV.lt {w0 W:World}{n:Nat}(h:iV w0 n W):w0.heap.size<W.heap.size:=by
 obtain⟨bs,x,_⟩:=h;exact(bN.1 x).1
theorem iV.alloc {w0 W:World}{n:Nat}(h:iV w0 n W)(o:Obj):iV w0 n (W.alloc o):=by
 have p:=h.lt;obtain⟨bs,u,y,z⟩:=h;exact⟨bs,(oW W o _ p).trans u,fun i a=>(y i a).aQ rfl (fun g t cs v _=>v.alloc o) (fun k x=>⟨x.1,by have:=x.2;simp;omega⟩),z.alloc (by omega) o⟩
theorem Pu {ops:Array Oper}{rest:List Oper}{o:Oper}{a:Act}{Q:Exit→Act→World→Prop}(w0 W:World)(n:Nat)(f:n<36)(y:o.guard=none)(m k x:Operand)(z:o.op=.insert 158 m k x)(l:o.dst=none)
  (q:a.eval m=.map (some w0.heap.size)) (r:a.eval k=Aj (Iv n:Int)) (v:Value) (u:a.eval x=v) (b:Nat) (g:iV w0 n W) (p:v=kJ (fun _=>b) n) (j:DoBox W (fun k=>w0.heap.size<k∧k<W.heap.size) (fun _=>b) n)
  (h:∀W',iV w0 (n+1) W'→wpList Tryz.prog ops Q rest a W'):wpList Tryz.prog ops Q (o::rest) a W:=by
 refine wpList_plain y fun H c=>?_
 obtain⟨es,i,s,e⟩:=g.add f v b p j;have d:=h _ e;generalize (Iv n:Int)=X at *;unfold Oper.wp;simp only[execOp,z,q,r,u];simp[Iy (P:=Tryz.prog) (w:=W) Tryz.underlying158 Tryz.underlying3 i (v:=v) s,Result.andThen];unfold Oper.upon;exact c _ _ (by rw[l];exact d)
theorem iV.start (w:World):iV w 0 (w.alloc (.map #[] 0)) :=
 ⟨fun _=>0,heap_alloc_new w _,fun i x=>by omega,aI.alloc Aw _⟩
def DoB (w0:World)(n b:Nat)(t:TypeId)(f:Fn)(W:World):Prop:=iV w0 n W∧(w0.heap.size<b∧b<W.heap.size)∧aH W b t #[.func f #[] #[]]
theorem iV.box {w0 W:World}{n:Nat}(h:iV w0 n W)(f:Fn)(t:TypeId):DoB w0 n W.heap.size t f (W.alloc (.cells #[.func f #[] #[]] t)) :=
 ⟨h.alloc _,⟨h.lt,by simp⟩,qv _ _ _⟩
theorem Zhx {w0 W:World}{n:Nat}(h:iV w0 n W)(f:Fn):Calls Tryz.prog 106 #[.func f #[] #[]] W fun e w'=>e=.returned (.func (.func 225) #[] #[.pointer (some ⟨W.heap.size,0,none⟩)])∧DoB w0 n W.heap.size 74 f w':=by
 have x:=Aq (h.box f 74);clear h;go_enter Tryz.func106,Tryz.ntmps106;go_wp2;go_ret;exact⟨rfl,x.o⟩
theorem Zji {w0 W:World}{n:Nat}(h:iV w0 n W)(f:Fn):Calls Tryz.prog 104 #[.func f #[] #[]] W fun e w'=>e=.returned (.func (.func 224) #[] #[.pointer (some ⟨W.heap.size,0,none⟩)])∧DoB w0 n W.heap.size 117 f w':=by
 have x:=Aq (h.box f 117);clear h;go_enter Tryz.func104,Tryz.ntmps104;go_wp2;go_ret;exact⟨rfl,x.o⟩
attribute [local go_sem] Lt
theorem Xz (w:World):Calls Tryz.prog 73 #[] w fun e w'=>e=.returned (.map (some w.heap.size))∧iV w 36 w':=by
 go_enter Tryz.func73,Tryz.ntmps73;have x:=Aq (iV.start w);go_wp2_with (first
  | (refine Pu _ _ _ (by decide) rfl _ _ _ rfl rfl rfl rfl _ rfl 0 x.o rfl trivial ?_;intro W z;clear x;have x:=Aq z;clear z)
  | (refine Pu _ _ _ (by decide) rfl _ _ _ rfl rfl rfl rfl _ rfl _ x.o.1 rfl x.o.2 ?_;intro W z;clear x;have x:=Aq z;clear z)
  | (go_at_call 106;refine(Zhx x.o _).mono ?_;rintro e u⟨rfl,y⟩;clear x;have x:=Aq y;clear y)
  | (go_at_call 104;refine(Zji x.o _).mono ?_;rintro e u⟨rfl,y⟩;clear x;have x:=Aq y;clear y))
 go_ret;exact⟨rfl,x.o⟩
theorem do34 (w:World)(sb:Nat)(L:bK)(s:Sr.St)(h:au w sb L s)(op n d a b:Int):Calls Tryz.prog 146 #[.pointer (some ⟨sb,0,none⟩),Ew ⟨op,d,a,b,n⟩] w (bB w sb L { s with m:=Nf s.m (n % 2) }):=by
 unfold Ew;have u:=Aq (fun o:Obj=>Wu (w.alloc o) sb L s (h.alloc o) (n % 2) (by omega));have z:=Aq (fun o:Obj=>(qu (eZ L sb) w).alloc o);clear h;go_enter Tryz.func146,Tryz.ntmps146;go_wp2_with fail
 refine(Jl _ 2 _ (by decide) (by decide)).mono ?_;rintro e w1⟨rfl,rfl⟩;go_wp2_with fail
 refine(u.o _).mono ?_;intro e v x;have y:=Aq (x.bL (z.o _));obtain⟨rfl,_⟩:=x;go_wp2;go_end0;exact y.o
structure Sr.bE.Can (r:Sr.bE) (s:Sr.St):Prop where
 d:(Sr.cP r.op).1 % 2=1→∃d:Nat,r.d=d∧d<64
 a:(Sr.cP r.op).1 / 2 % 2=1→∃a:Nat,r.a=a∧a<64
 b:(Sr.cP r.op).1 / 4 % 2=1→∃b:Nat,r.b=b∧b<64
 n:Sr.cN r.op=true→∃n:Nat,r.n=n∧s.pc+n≤1000000
def Dh (w:World)(sb:Nat)(L:bK)(s:Sr.St)(i:Nat)(r:Sr.bE)(bs:Nat→Nat):Prop :=
 ∃id,(m_ i).1=.func id∧(∀args w,Sem.run Tryz.prog (callFunc id args) w=.ok (.enter id args) w) ∧
  Calls Tryz.prog id (match (m_ i).2 with|some _=>#[.pointer (some ⟨sb,0,none⟩),Ew r,.pointer (some ⟨bs i,0,none⟩)]|none=>#[.pointer (some ⟨sb,0,none⟩),Ew r]) w (bB w sb L (Sr.deed r s))
section
variable {w : World} {sb : Nat} {L : bK} {s : Sr.St} {r : Sr.bE} {bs : Nat → Nat} {O : Nat → Prop}
theorem dk1 (h:au w sb L s)(x:r.op=1)(y:r.Can s)(_hb:DoBox w O bs 0):Dh w sb L s 0 r bs:=by
 obtain⟨op,d,a,b,n⟩:=r;simp only at x;subst x;obtain⟨u,e,z⟩:=y.d rfl;simp only at e;subst e;refine⟨_,rfl,(Bm Tryz.func102 (by kernel_rfl) rfl),?_⟩;exact do1 w sb L s h _ n a b u z
theorem dk39 (h:au w sb L s)(x:r.op=39)(y:r.Can s)(_hb:DoBox w O bs 1):Dh w sb L s 1 r bs:=by
 obtain⟨op,d,a,b,n⟩:=r;simp only at x;subst x;obtain⟨u,e,z⟩:=y.d rfl;simp only at e;subst e;refine⟨_,rfl,(Bm Tryz.func103 (by kernel_rfl) rfl),?_⟩;exact do39 w sb L s h _ n a b u z
theorem dk40 (h:au w sb L s)(y:r.op=40)(x:r.Can s)(v:DoBox w O bs 2):Dh w sb L s 2 r bs:=by
 obtain⟨op,d,a,b,n⟩:=r;simp only at y;subst y;obtain⟨p,e,u⟩:=x.d rfl;simp only at e;subst e;obtain⟨z,e,k⟩:=x.a rfl;simp only at e;subst e;refine⟨_,rfl,(Bm Tryz.func224 (by kernel_rfl) rfl),?_⟩;exact Io w sb L s h _ n p z b u k (bs 2) _ v.2 _ (Bm Tryz.func105 (by kernel_rfl) rfl) (fun w=>s40 _ w)
theorem dk5 (h:au w sb L s)(z:r.op=5)(x:r.Can s)(c:DoBox w O bs 3):Dh w sb L s 3 r bs:=by
 obtain⟨op,d,a,b,n⟩:=r;simp only at z;subst z;obtain⟨k,e,p⟩:=x.d rfl;simp only at e;subst e;obtain⟨q,e,u⟩:=x.a rfl;simp only at e;subst e;obtain⟨v,e,y⟩:=x.b rfl;simp only at e;subst e;refine⟨_,rfl,(Bm Tryz.func225 (by kernel_rfl) rfl),?_⟩;exact Fa w sb L s h _ n k q v p u y (bs 3) _ c.2 _ (Bm Tryz.func107 (by kernel_rfl) rfl) (fun w=>s5 _ _ w (h.rk u) (h.rk y))
theorem dk6 (h:au w sb L s)(z:r.op=6)(x:r.Can s)(c:DoBox w O bs 4):Dh w sb L s 4 r bs:=by
 obtain⟨op,d,a,b,n⟩:=r;simp only at z;subst z;obtain⟨k,e,p⟩:=x.d rfl;simp only at e;subst e;obtain⟨q,e,u⟩:=x.a rfl;simp only at e;subst e;obtain⟨v,e,y⟩:=x.b rfl;simp only at e;subst e;refine⟨_,rfl,(Bm Tryz.func225 (by kernel_rfl) rfl),?_⟩;exact Fa w sb L s h _ n k q v p u y (bs 4) _ c.2 _ (Bm Tryz.func108 (by kernel_rfl) rfl) (fun w=>s6 _ _ w (h.rk u) (h.rk y))
theorem dk7 (h:au w sb L s)(z:r.op=7)(x:r.Can s)(c:DoBox w O bs 5):Dh w sb L s 5 r bs:=by
 obtain⟨op,d,a,b,n⟩:=r;simp only at z;subst z;obtain⟨k,e,p⟩:=x.d rfl;simp only at e;subst e;obtain⟨q,e,u⟩:=x.a rfl;simp only at e;subst e;obtain⟨v,e,y⟩:=x.b rfl;simp only at e;subst e;refine⟨_,rfl,(Bm Tryz.func225 (by kernel_rfl) rfl),?_⟩;exact Fa w sb L s h _ n k q v p u y (bs 5) _ c.2 _ (Bm Tryz.func109 (by kernel_rfl) rfl) (fun w=>s7 _ _ w (h.rk u) (h.rk y))
theorem dk8 (h:au w sb L s)(z:r.op=8)(x:r.Can s)(c:DoBox w O bs 6):Dh w sb L s 6 r bs:=by
 obtain⟨op,d,a,b,n⟩:=r;simp only at z;subst z;obtain⟨k,e,p⟩:=x.d rfl;simp only at e;subst e;obtain⟨q,e,u⟩:=x.a rfl;simp only at e;subst e;obtain⟨v,e,y⟩:=x.b rfl;simp only at e;subst e;refine⟨_,rfl,(Bm Tryz.func225 (by kernel_rfl) rfl),?_⟩;exact Fa w sb L s h _ n k q v p u y (bs 6) _ c.2 _ (Bm Tryz.func110 (by kernel_rfl) rfl) (fun w=>s8 _ _ w (h.rk u) (h.rk y))
theorem dk9 (h:au w sb L s)(y:r.op=9)(x:r.Can s)(k:DoBox w O bs 7):Dh w sb L s 7 r bs:=by
 obtain⟨op,d,a,b,n⟩:=r;simp only at y;subst y;obtain⟨p,e,v⟩:=x.d rfl;simp only at e;subst e;obtain⟨u,e,z⟩:=x.a rfl;simp only at e;subst e;refine⟨_,rfl,(Bm Tryz.func224 (by kernel_rfl) rfl),?_⟩;exact Io w sb L s h _ n p u b v z (bs 7) _ k.2 _ (Bm Tryz.func112 (by kernel_rfl) rfl) (fun w=>s9 _ w (h.rk z))
theorem dk10 (h:au w sb L s)(y:r.op=10)(x:r.Can s)(k:DoBox w O bs 8):Dh w sb L s 8 r bs:=by
 obtain⟨op,d,a,b,n⟩:=r;simp only at y;subst y;obtain⟨p,e,v⟩:=x.d rfl;simp only at e;subst e;obtain⟨u,e,z⟩:=x.a rfl;simp only at e;subst e;refine⟨_,rfl,(Bm Tryz.func224 (by kernel_rfl) rfl),?_⟩;exact Io w sb L s h _ n p u b v z (bs 8) _ k.2 _ (Bm Tryz.func113 (by kernel_rfl) rfl) (fun w=>s10 _ w (h.rk z))
theorem dk11 (h:au w sb L s)(z:r.op=11)(x:r.Can s)(c:DoBox w O bs 9):Dh w sb L s 9 r bs:=by
 obtain⟨op,d,a,b,n⟩:=r;simp only at z;subst z;obtain⟨k,e,p⟩:=x.d rfl;simp only at e;subst e;obtain⟨q,e,u⟩:=x.a rfl;simp only at e;subst e;obtain⟨v,e,y⟩:=x.b rfl;simp only at e;subst e;refine⟨_,rfl,(Bm Tryz.func225 (by kernel_rfl) rfl),?_⟩;exact Fa w sb L s h _ n k q v p u y (bs 9) _ c.2 _ (Bm Tryz.func114 (by kernel_rfl) rfl) (fun w=>s11 _ _ w (h.rk u) (h.rk y))
theorem dk12 (h:au w sb L s)(z:r.op=12)(x:r.Can s)(c:DoBox w O bs 10):Dh w sb L s 10 r bs:=by
 obtain⟨op,d,a,b,n⟩:=r;simp only at z;subst z;obtain⟨k,e,p⟩:=x.d rfl;simp only at e;subst e;obtain⟨q,e,u⟩:=x.a rfl;simp only at e;subst e;obtain⟨v,e,y⟩:=x.b rfl;simp only at e;subst e;refine⟨_,rfl,(Bm Tryz.func225 (by kernel_rfl) rfl),?_⟩;exact Fa w sb L s h _ n k q v p u y (bs 10) _ c.2 _ (Bm Tryz.func115 (by kernel_rfl) rfl) (fun w=>s12 _ _ w (h.rk u) (h.rk y))
theorem dk13 (h:au w sb L s)(y:r.op=13)(x:r.Can s)(k:DoBox w O bs 11):Dh w sb L s 11 r bs:=by
 obtain⟨op,d,a,b,n⟩:=r;simp only at y;subst y;obtain⟨p,e,v⟩:=x.d rfl;simp only at e;subst e;obtain⟨u,e,z⟩:=x.a rfl;simp only at e;subst e;refine⟨_,rfl,(Bm Tryz.func224 (by kernel_rfl) rfl),?_⟩;exact Io w sb L s h _ n p u b v z (bs 11) _ k.2 _ (Bm Tryz.func116 (by kernel_rfl) rfl) (fun w=>s13 _ w (h.rk z))
theorem dk14 (h:au w sb L s)(y:r.op=14)(x:r.Can s)(k:DoBox w O bs 12):Dh w sb L s 12 r bs:=by
 obtain⟨op,d,a,b,n⟩:=r;simp only at y;subst y;obtain⟨p,e,v⟩:=x.d rfl;simp only at e;subst e;obtain⟨u,e,z⟩:=x.a rfl;simp only at e;subst e;refine⟨_,rfl,(Bm Tryz.func224 (by kernel_rfl) rfl),?_⟩;exact Io w sb L s h _ n p u b v z (bs 12) _ k.2 _ (Bm Tryz.func118 (by kernel_rfl) rfl) (fun w=>s14 _ w (h.rk z))
theorem dk15 (h:au w sb L s)(y:r.op=15)(x:r.Can s)(_hb:DoBox w O bs 13):Dh w sb L s 13 r bs:=by
 obtain⟨op,d,a,b,n⟩:=r;simp only at y;subst y;obtain⟨k,e,u⟩:=x.d rfl;simp only at e;subst e;obtain⟨z,e,v⟩:=x.a rfl;simp only at e;subst e;refine⟨_,rfl,(Bm Tryz.func119 (by kernel_rfl) rfl),?_⟩;exact do15 w sb L s h _ n b k z u v
theorem dk16 (h:au w sb L s)(z:r.op=16)(x:r.Can s)(c:DoBox w O bs 14):Dh w sb L s 14 r bs:=by
 obtain⟨op,d,a,b,n⟩:=r;simp only at z;subst z;obtain⟨k,e,p⟩:=x.d rfl;simp only at e;subst e;obtain⟨q,e,u⟩:=x.a rfl;simp only at e;subst e;obtain⟨v,e,y⟩:=x.b rfl;simp only at e;subst e;refine⟨_,rfl,(Bm Tryz.func225 (by kernel_rfl) rfl),?_⟩;exact Fa w sb L s h _ n k q v p u y (bs 14) _ c.2 _ (Bm Tryz.func120 (by kernel_rfl) rfl) (fun w=>s16 _ _ w (h.rk u) (h.rk y))
theorem dk17 (h:au w sb L s)(z:r.op=17)(x:r.Can s)(c:DoBox w O bs 15):Dh w sb L s 15 r bs:=by
 obtain⟨op,d,a,b,n⟩:=r;simp only at z;subst z;obtain⟨k,e,p⟩:=x.d rfl;simp only at e;subst e;obtain⟨q,e,u⟩:=x.a rfl;simp only at e;subst e;obtain⟨v,e,y⟩:=x.b rfl;simp only at e;subst e;refine⟨_,rfl,(Bm Tryz.func225 (by kernel_rfl) rfl),?_⟩;exact Fa w sb L s h _ n k q v p u y (bs 15) _ c.2 _ (Bm Tryz.func122 (by kernel_rfl) rfl) (fun w=>s17 _ _ w (h.rk u) (h.rk y))
theorem dk18 (h:au w sb L s)(z:r.op=18)(x:r.Can s)(c:DoBox w O bs 16):Dh w sb L s 16 r bs:=by
 obtain⟨op,d,a,b,n⟩:=r;simp only at z;subst z;obtain⟨k,e,p⟩:=x.d rfl;simp only at e;subst e;obtain⟨q,e,u⟩:=x.a rfl;simp only at e;subst e;obtain⟨v,e,y⟩:=x.b rfl;simp only at e;subst e;refine⟨_,rfl,(Bm Tryz.func225 (by kernel_rfl) rfl),?_⟩;exact Fa w sb L s h _ n k q v p u y (bs 16) _ c.2 _ (Bm Tryz.func123 (by kernel_rfl) rfl) (fun w=>s18 _ _ w (h.rk u) (h.rk y))
theorem dk19 (h:au w sb L s)(y:r.op=19)(x:r.Can s)(k:DoBox w O bs 17):Dh w sb L s 17 r bs:=by
 obtain⟨op,d,a,b,n⟩:=r;simp only at y;subst y;obtain⟨p,e,v⟩:=x.d rfl;simp only at e;subst e;obtain⟨u,e,z⟩:=x.a rfl;simp only at e;subst e;refine⟨_,rfl,(Bm Tryz.func224 (by kernel_rfl) rfl),?_⟩;exact Io w sb L s h _ n p u b v z (bs 17) _ k.2 _ (Bm Tryz.func124 (by kernel_rfl) rfl) (fun w=>s19 _ w (h.rk z))
theorem dk20 (h:au w sb L s)(z:r.op=20)(x:r.Can s)(c:DoBox w O bs 18):Dh w sb L s 18 r bs:=by
 obtain⟨op,d,a,b,n⟩:=r;simp only at z;subst z;obtain⟨k,e,p⟩:=x.d rfl;simp only at e;subst e;obtain⟨q,e,u⟩:=x.a rfl;simp only at e;subst e;obtain⟨v,e,y⟩:=x.b rfl;simp only at e;subst e;refine⟨_,rfl,(Bm Tryz.func225 (by kernel_rfl) rfl),?_⟩;exact Fa w sb L s h _ n k q v p u y (bs 18) _ c.2 _ (Bm Tryz.func125 (by kernel_rfl) rfl) (fun w=>s20 _ _ w (h.rk u) (h.rk y))
theorem dk21 (h:au w sb L s)(z:r.op=21)(x:r.Can s)(c:DoBox w O bs 19):Dh w sb L s 19 r bs:=by
 obtain⟨op,d,a,b,n⟩:=r;simp only at z;subst z;obtain⟨k,e,p⟩:=x.d rfl;simp only at e;subst e;obtain⟨q,e,u⟩:=x.a rfl;simp only at e;subst e;obtain⟨v,e,y⟩:=x.b rfl;simp only at e;subst e;refine⟨_,rfl,(Bm Tryz.func225 (by kernel_rfl) rfl),?_⟩;exact Fa w sb L s h _ n k q v p u y (bs 19) _ c.2 _ (Bm Tryz.func126 (by kernel_rfl) rfl) (fun w=>s21 _ _ w (h.rk u) (h.rk y))
theorem dk25 (h:au w sb L s)(y:r.op=25)(x:r.Can s)(_hb:DoBox w O bs 20):Dh w sb L s 20 r bs:=by
 obtain⟨op,d,a,b,n⟩:=r;simp only at y;subst y;obtain⟨k,e,u⟩:=x.d rfl;simp only at e;subst e;obtain⟨z,e,v⟩:=x.a rfl;simp only at e;subst e;refine⟨_,rfl,(Bm Tryz.func127 (by kernel_rfl) rfl),?_⟩;exact do25 w sb L s h _ n b k z u v
theorem dk26 (h:au w sb L s)(y:r.op=26)(x:r.Can s)(_hb:DoBox w O bs 21):Dh w sb L s 21 r bs:=by
 obtain⟨op,d,a,b,n⟩:=r;simp only at y;subst y;obtain⟨z,e,k⟩:=x.a rfl;simp only at e;subst e;obtain⟨v,e,u⟩:=x.b rfl;simp only at e;subst e;refine⟨_,rfl,(Bm Tryz.func129 (by kernel_rfl) rfl),?_⟩;exact do26 w sb L s h _ n d z v k u
theorem dk27 (h:au w sb L s)(y:r.op=27)(x:r.Can s)(_hb:DoBox w O bs 22):Dh w sb L s 22 r bs:=by
 obtain⟨op,d,a,b,n⟩:=r;simp only at y;subst y;obtain⟨k,e,u⟩:=x.d rfl;simp only at e;subst e;obtain⟨z,e,v⟩:=x.a rfl;simp only at e;subst e;refine⟨_,rfl,(Bm Tryz.func131 (by kernel_rfl) rfl),?_⟩;exact do27 w sb L s h _ n b k z u v
theorem dk28 (h:au w sb L s)(y:r.op=28)(x:r.Can s)(_hb:DoBox w O bs 23):Dh w sb L s 23 r bs:=by
 obtain⟨op,d,a,b,n⟩:=r;simp only at y;subst y;obtain⟨z,e,k⟩:=x.a rfl;simp only at e;subst e;obtain⟨v,e,u⟩:=x.b rfl;simp only at e;subst e;refine⟨_,rfl,(Bm Tryz.func132 (by kernel_rfl) rfl),?_⟩;exact do28 w sb L s h _ n d z v k u
theorem dk22 (h:au w sb L s)(x:r.op=22)(y:r.Can s)(_hb:DoBox w O bs 24):Dh w sb L s 24 r bs:=by
 obtain⟨op,d,a,b,n⟩:=r;simp only at x;subst x;refine⟨_,rfl,(Bm Tryz.func133 (by kernel_rfl) rfl),?_⟩;exact do22 w sb L s h _ n d a b
theorem dk23 (h:au w sb L s)(x:r.op=23)(y:r.Can s)(_hb:DoBox w O bs 25):Dh w sb L s 25 r bs:=by
 obtain⟨op,d,a,b,n⟩:=r;simp only at x;subst x;refine⟨_,rfl,(Bm Tryz.func135 (by kernel_rfl) rfl),?_⟩;exact do23 w sb L s h _ n d a b
theorem dk24 (h:au w sb L s)(x:r.op=24)(y:r.Can s)(_hb:DoBox w O bs 26):Dh w sb L s 26 r bs:=by
 obtain⟨op,d,a,b,n⟩:=r;simp only at x;subst x;refine⟨_,rfl,(Bm Tryz.func136 (by kernel_rfl) rfl),?_⟩;exact do24 w sb L s h _ n d a b
theorem dk29 (h:au w sb L s)(y:r.op=29)(x:r.Can s)(_hb:DoBox w O bs 27):Dh w sb L s 27 r bs:=by
 obtain⟨op,d,a,b,n⟩:=r;simp only at y;subst y;obtain⟨k,e,u⟩:=x.d rfl;simp only at e;subst e;obtain⟨z,e,v⟩:=x.a rfl;simp only at e;subst e;refine⟨_,rfl,(Bm Tryz.func137 (by kernel_rfl) rfl),?_⟩;exact do29 w sb L s h _ n b k z u v
theorem dk30 (h:au w sb L s)(y:r.op=30)(x:r.Can s)(_hb:DoBox w O bs 28):Dh w sb L s 28 r bs:=by
 obtain⟨op,d,a,b,n⟩:=r;simp only at y;subst y;obtain⟨k,e,u⟩:=x.d rfl;simp only at e;subst e;obtain⟨z,e,v⟩:=x.a rfl;simp only at e;subst e;refine⟨_,rfl,(Bm Tryz.func139 (by kernel_rfl) rfl),?_⟩;exact do30 w sb L s h _ n b k z u v
theorem dk31 (h:au w sb L s)(y:r.op=31)(x:r.Can s)(_hb:DoBox w O bs 29):Dh w sb L s 29 r bs:=by
 obtain⟨op,d,a,b,n⟩:=r;simp only at y;subst y;obtain⟨z,e,k⟩:=x.a rfl;simp only at e;subst e;obtain⟨v,e,u⟩:=x.b rfl;simp only at e;subst e;refine⟨_,rfl,(Bm Tryz.func140 (by kernel_rfl) rfl),?_⟩;exact do31 w sb L s h _ n d z v k u
theorem dk32 (h:au w sb L s)(y:r.op=32)(x:r.Can s)(_hb:DoBox w O bs 30):Dh w sb L s 30 r bs:=by
 obtain⟨op,d,a,b,n⟩:=r;simp only at y;subst y;obtain⟨z,e,k⟩:=x.a rfl;simp only at e;subst e;obtain⟨v,e,u⟩:=x.b rfl;simp only at e;subst e;refine⟨_,rfl,(Bm Tryz.func142 (by kernel_rfl) rfl),?_⟩;exact do32 w sb L s h _ n d z v k u
theorem dk33 (h:au w sb L s)(y:r.op=33)(x:r.Can s)(_hb:DoBox w O bs 31):Dh w sb L s 31 r bs:=by
 obtain⟨op,d,a,b,n⟩:=r;simp only at y;subst y;obtain⟨z,e,k⟩:=x.a rfl;simp only at e;subst e;obtain⟨v,e,u⟩:=x.b rfl;simp only at e;subst e;refine⟨_,rfl,(Bm Tryz.func144 (by kernel_rfl) rfl),?_⟩;exact do33 w sb L s h _ n d z v k u
theorem dk34 (h:au w sb L s)(x:r.op=34)(y:r.Can s)(_hb:DoBox w O bs 32):Dh w sb L s 32 r bs:=by
 obtain⟨op,d,a,b,n⟩:=r;simp only at x;subst x;refine⟨_,rfl,(Bm Tryz.func146 (by kernel_rfl) rfl),?_⟩;exact do34 w sb L s h _ n d a b
theorem dk35 (h:au w sb L s)(x:r.op=35)(z:r.Can s)(_hb:DoBox w O bs 33):Dh w sb L s 33 r bs:=by
 obtain⟨op,d,a,b,n⟩:=r;simp only at x;subst x;obtain⟨n',e,y⟩:=z.n rfl;simp only at e;subst e;refine⟨_,rfl,(Bm Tryz.func148 (by kernel_rfl) rfl),?_⟩;exact do35 w sb L s h _ d a b n' y
theorem dk36 (h:au w sb L s)(y:r.op=36)(x:r.Can s)(_hb:DoBox w O bs 34):Dh w sb L s 34 r bs:=by
 obtain⟨op,d,a,b,n⟩:=r;simp only at y;subst y;obtain⟨u,e,v⟩:=x.a rfl;simp only at e;subst e;obtain⟨n',e,z⟩:=x.n rfl;simp only at e;subst e;refine⟨_,rfl,(Bm Tryz.func149 (by kernel_rfl) rfl),?_⟩;exact do36 w sb L s h _ d b u n' v z
theorem dk41 (h:au w sb L s)(y:r.op=41)(x:r.Can s)(_hb:DoBox w O bs 35):Dh w sb L s 35 r bs:=by
 obtain⟨op,d,a,b,n⟩:=r;simp only at y;subst y;obtain⟨u,e,v⟩:=x.a rfl;simp only at e;subst e;obtain⟨n',e,z⟩:=x.n rfl;simp only at e;subst e;refine⟨_,rfl,(Bm Tryz.func151 (by kernel_rfl) rfl),?_⟩;exact do41 w sb L s h _ d b u n' v z
theorem Zhd (h:au w sb L s){i:Nat}(hi:i<36)(y:r.op=Iv i)(z:r.Can s)(x:DoBox w O bs i):Dh w sb L s i r bs:=by
 match i,hi,y,x with
 |0,_,y,x=>exact dk1 h y z x
 |1,_,y,x=>exact dk39 h y z x
 |2,_,y,x=>exact dk40 h y z x
 |3,_,y,x=>exact dk5 h y z x
 |4,_,y,x=>exact dk6 h y z x
 |5,_,y,x=>exact dk7 h y z x
 |6,_,y,x=>exact dk8 h y z x
 |7,_,y,x=>exact dk9 h y z x
 |8,_,y,x=>exact dk10 h y z x
 |9,_,y,x=>exact dk11 h y z x
 |10,_,y,x=>exact dk12 h y z x
 |11,_,y,x=>exact dk13 h y z x
 |12,_,y,x=>exact dk14 h y z x
 |13,_,y,x=>exact dk15 h y z x
 |14,_,y,x=>exact dk16 h y z x
 |15,_,y,x=>exact dk17 h y z x
 |16,_,y,x=>exact dk18 h y z x
 |17,_,y,x=>exact dk19 h y z x
 |18,_,y,x=>exact dk20 h y z x
 |19,_,y,x=>exact dk21 h y z x
 |20,_,y,x=>exact dk25 h y z x
 |21,_,y,x=>exact dk26 h y z x
 |22,_,y,x=>exact dk27 h y z x
 |23,_,y,x=>exact dk28 h y z x
 |24,_,y,x=>exact dk22 h y z x
 |25,_,y,x=>exact dk23 h y z x
 |26,_,y,x=>exact dk24 h y z x
 |27,_,y,x=>exact dk29 h y z x
 |28,_,y,x=>exact dk30 h y z x
 |29,_,y,x=>exact dk31 h y z x
 |30,_,y,x=>exact dk32 h y z x
 |31,_,y,x=>exact dk33 h y z x
 |32,_,y,x=>exact dk34 h y z x
 |33,_,y,x=>exact dk35 h y z x
 |34,_,y,x=>exact dk36 h y z x
 |35,_,y,x=>exact dk41 h y z x
 |n+36,h2,_,_=>omega
end
end
end Go.Proofs.YtnhebmgibiomnaaGreat

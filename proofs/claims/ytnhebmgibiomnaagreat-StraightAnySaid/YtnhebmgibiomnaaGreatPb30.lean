/- Parts of the proof, joined: BuS BuT. -/
import Derived.Test.YtnhebmgibiomnaaGreatPb26
import Derived.Test.YtnhebmgibiomnaaGreatPb29
set_option linter.unusedVariables false
set_option linter.unusedSimpArgs false
set_option maxRecDepth 100000
set_option maxHeartbeats 8000000
namespace Go.Proofs.YtnhebmgibiomnaaGreat
open Go.RowKit
theorem Qi {n:Nat} {fs:List Bd.Cost} {l:List (Int×Int)} {c:Bd.Cost} {P:List Bd.Place} (h:Hd.Tab n fs l c P) {i:Nat} {x:Int×Int} (hx:l[i]?=some x) (hk:(Bd.pat P i).known=true) : -32≤(Bd.pat P i).high∧(Bd.pat P i).high≤34:=by
 obtain⟨h1,h2,_,_⟩:=(h.ok i x hx).kn hk;have t:=Bd.takes_bd x.1;have l':=Bd.leaves_bd x.1;have n1:=h.n1;have k1:=h.k1;unfold Bd.effect at h1 h2;by_cases hc:Bd.calls x.1=true
 ·rw[if_pos hc] at h1 h2;simp only at h1 h2;omega
 ·rw[if_neg hc] at h1 h2;simp only at h1 h2;omega
theorem Ll {fs:List Bd.Cost} {l:List (Int×Int)} {c:Bd.Cost} {P:List Bd.Place} (h:Hd.Tab l.length fs l c P) {i:Nat} {x:Int×Int} (hx:l[i]?=some x):i+1+Bu.jump x≤l.length:=by
 have hi:=(List.getElem?_eq_some_iff.1 hx).1;have hal:=(Hd.always_ok (h.ok i x hx).al).2.1;unfold Bu.jump;split
 ·rename_i h3;have:=hal h3;omega
 ·omega
theorem Nc {fs:List Bd.Cost} (ps:List Bu.Plan) {l:List (Int×Int)} {c:Bd.Cost} {P:List Bd.Place} (h:Hd.Tab l.length fs l c P):Ry fs.length (Bu.planned l fs ps):=fun s hs=>by
 obtain⟨k,hk⟩:=List.mem_iff_getElem?.1 hs;obtain⟨i,x,hx,hkn,_,_,rfl⟩:=Bu.planned_src ps h k s hk;have hp:=Bu.planned_of ps h;have hi:=(List.getElem?_eq_some_iff.1 hx).1;obtain⟨b1,b2⟩:=Qi h hx (hp.known i (by omega) hkn);refine⟨fun hh=>(Hd.always_ok (h.ok i x hx).al).2.2 hh,by simp only;omega,by simp only;omega,?_⟩;simp only;rw[←hp.fin];exact Bu.cnt_mono fs ps l (Ll h hx) Ad
theorem fn_bd {fs:List Bd.Cost} (hm:fs.all Bd.mayBe=true) (a:Int) : -32≤(Bd.fn fs a).delta∧(Bd.fn fs a).delta≤32:=by
 unfold Bd.fn;rw[List.getD_eq_getElem?_getD];cases he:fs[a.toNat]? with
 | none=>exact⟨by decide,by decide⟩
 | some c =>
  have:=Bd.mayBe_bd (List.all_eq_true.1 hm c (List.mem_of_getElem? he));simp only[Option.getD_some];omega
theorem pl_bd {ps:List Bu.Plan} (hs:∀ p∈ps,0≤p.size∧p.size≤20001) (a:Int):0≤(Bu.pl ps a).size∧(Bu.pl ps a).size≤20001:=by
 unfold Bu.pl;rw[List.getD_eq_getElem?_getD];cases he:ps[a.toNat]? with
 | none=>exact⟨by decide,by decide⟩
 | some c=>exact hs c (List.mem_of_getElem? he)
theorem Jz {fs':List Bd.Cost} (fs:List Bd.Cost) (ps:List Bu.Plan) {l:List (Int×Int)} {c:Bd.Cost} {P:List Bd.Place} (h:Hd.Tab l.length fs' l c P) (hm:fs.all Bd.mayBe=true) (hs:∀ p∈ps,0≤p.size∧p.size≤20001):Bu.CodeFine fs ps fs'.length l where
 jumps:=fun i x hx=>Ll h hx
 ahead:=fun x hx h3=>by
  obtain⟨i,hi⟩:=List.mem_iff_getElem?.1 hx;exact((Hd.always_ok (h.ok i x hi).al).2.1 h3).1
 calls:=fun x hx hc=>Bu.tab_calls h x hx hc
 grows:=fun x _=>by
  have:=fn_bd hm x.2;unfold Bu.growth
  repeat' split
  all_goals omega
 sizes:=fun x _=>by
  have:=pl_bd hs x.2;unfold Bu.sizeOf
  repeat' split
  all_goals omega
theorem Gw {fs:List Bd.Cost} {ps:List Bu.Plan} {k:Nat} {l:List (Int×Int)} (h:Bu.CodeFine fs ps k l):(Bu.planned l fs ps).steps.length≤l.length:=by
 have:=(Bu.planGo_ok fs ps l k h l.length Ad).steps;rw[List.take_length] at this;unfold Bu.planned
 simpa using this
theorem Zfi {ll:List (List (Int×Int))} {fs:List Bd.Cost} {ps:List Bu.Plan} {es:List Bu.Emit} (h:Bu.All ll fs ps es) (hm:fs.all Bd.mayBe=true) (hs:∀ p∈ps,0≤p.size∧p.size≤20001) (hn:∀ l∈ll,l.length≤100000):∀ j,j<ll.length→Rz es ps j:=by
 intro j
 induction j using Nat.strongRecOn with
 | _ j ih =>
 intro hj;obtain⟨cj,P,hcj,hcode,hP,hpl,hp,hem,_⟩:=h.fn j _ (List.getElem?_eq_getElem hj);have hfl:=h.fl;have hpn:=h.pn;have htl:(fs.take j).length=j:=by rw[List.length_take];omega
 intro w B bb pv cv code p A c high loops hpj hL hB hst heb hlen;rw[hp] at hpj
 injection hpj with hpj
 subst hpj;rw[hem] at hlen ⊢;have hmt:(fs.take j).all Bd.mayBe=true:=List.all_eq_true.2 fun c hc=>List.all_eq_true.1 hm c (List.mem_of_mem_take hc)
 have hfine:=Jz (fs.take j) ps hP hmt hs;have hl:=hn _ (List.getElem_mem hj);have hst':=Gw hfine;have hpf:=Nc ps hP;rw[htl] at hpf;exact Od es ps j (by omega) (fun i hi=>ih i hi (by omega)) _ hpf w B bb pv cv code A c high loops hL hB hst (by omega) heb hlen
end Go.Proofs.YtnhebmgibiomnaaGreat
namespace Go.Proofs.YtnhebmgibiomnaaGreat
open Go.RowKit Mc
theorem Se {P:Program} (w:World) {ops:Array Oper} {o:Oper} {a:Act} {K:Act→World→Prop} {Q:Exit→Act→World→Prop} {E:Prop} (hgd:o.guard=none) (s x:Operand) (t:TypeId)
  (ho:o.op=.call { callee:=.builtin .append,args:=#[s,x],argTypes:=#[t,t] }) {N0:Nat} {α:Type} (R:Repr N0 α)
  (base:Nat) (e:TypeId) (i:TypeInfo) (z:Value) (bytes:Nat) (ht:P.underlying t=some (.slice e)) (hi:P.info? e=some i) (hz:i.zero=some z)
  (hsize:i.size=R.size) (hby:i.bytes=bytes) (hzs:z.cells.size=R.size) (hsz:0<R.size) (hno:e ∉ R.tys) (hN:N0≤base)
  (v:Value) (l:List α) (hs:a.eval s=v) (hown:OwnAt R e base w v l)
  (g:Nat) (cs:List Value) (y:α) (hx:a.eval x=.slice (some ⟨g,0,none⟩) 1 1) (hblk:Blk w g e cs.toArray) (hy:R.rel w w.heap.size y cs)
  (h63:l.length+1≤maxLen) (hbytes:(l.length+1)*bytes≤140737488355328) (hbase:base≤w.heap.size)
  (h:∀ v' w',OwnAt R e base w' v' (l++[y])→w.grownBy w' v.ownBlock→K (a.put o.dst v') w') :
  if Region.wanted o (yielded ops a.tmps)=true then Oper.wp P o a w K Q else E:=by
 obtain⟨css,hw',h1,h2⟩:=hown;have hr:Reads w w.heap.size R.size (some ⟨g,0,none⟩) 1 cs:=⟨by rw[R.len hy];omega,fun _=>⟨_,_,rfl,hblk.lt,fun j u hu=>by rw[Nat.zero_add,hblk.cell];simpa using hu⟩⟩;exact Ep w hgd s x t ho e i z R.size bytes ht hi hz hsize hby hzs hsz base v l.length css.flatten hs hw' hbase w.heap.size _ 1 1 cs hx hr (R.one hy) h63 hbytes
  fun v' w' h3 h4 _=>h v' w' (OwnAt.push hw' h1 h2 hno hN hy h3 h4) h4
theorem Dz:∀ (l:List (Int×Int)),Bg l=pts l
 | []=>rfl
 | x::r=>by rw[Bg,Dz r];rfl
theorem Zbz {w:World} {base:Nat} {v:Value} {l:List Bu.PS} (h:w.ownsRow base 145 4 v l.length (Cb l)) (hi:∀ s∈l,I64 s.op∧I64 s.a∧I64 s.high∧I64 (s.go:Int)):OwnAt (psR 0) 145 base w v l :=
 OwnAt.of_own (fun s=>[.int .i64 s.op,.int .i64 s.a,.int .i64 s.high,.int .i64 (s.go:Int)]) (fun s hs=>by
  obtain⟨h1,h2,h3,h4⟩:=hi s hs;exact⟨[.int .i64 s.op],[.int .i64 s.a,.int .i64 s.high,.int .i64 (s.go:Int)],rfl,⟨rfl,h1⟩,[.int .i64 s.a],[.int .i64 s.high,.int .i64 (s.go:Int)],rfl,⟨rfl,h2⟩,[.int .i64 s.high],[.int .i64 (s.go:Int)],rfl,⟨rfl,h3⟩,⟨rfl,h4⟩⟩) h
theorem Qw {fs:List Bd.Cost} (ps:List Bu.Plan) {l:List (Int×Int)} {c:Bd.Cost} {P:List Bd.Place} (h:Hd.Tab l.length fs l c P) (hn:l.length≤100000) (hi:∀ x∈l,I64 x.2):∀ s∈(Bu.planned l fs ps).steps,I64 s.op∧I64 s.a∧I64 s.high∧I64 (s.go:Int):=fun s hs=>by
 obtain⟨k,hk⟩:=List.mem_iff_getElem?.1 hs;obtain⟨i,x,hx,hkn,_,_,rfl⟩:=Bu.planned_src ps h k s hk;have hp:=Bu.planned_of ps h;have hil:=(List.getElem?_eq_some_iff.1 hx).1;obtain⟨b1,b2⟩:=Qi h hx (hp.known i (by omega) hkn);have h1:=(Hd.always_ok (h.ok i x hx).al).1;have h2:=hi x (List.mem_of_getElem? hx);have h3:=Bu.cnt_mono fs ps l (Ll h hx) Ad;have h4:Bu.cnt fs ps l l.length≤l.length:=by
  have key:∀ i,i≤l.length→Bu.cnt fs ps l i≤i:=by
   intro i
   induction i with
   | zero=>intro _;exact Nat.le_refl 0
   | succ i ih =>
    intro hi;obtain⟨x,hx⟩:∃ x,l[i]?=some x:=⟨_,List.getElem?_eq_getElem (by omega)⟩;have:=ih (by omega);unfold Bu.cnt at this ⊢;rw[Bu.st_succ fs ps hx];unfold Bu.plan1;split
    ·omega
    ·dsimp only;split
     ·rw[List.length_append,List.length_singleton];omega
     ·omega
  exact key _ Ad
 unfold I64 at h2 ⊢;simp only;omega
structure ProgOk (ll:List (List (Int×Int))) (l:List (Int×Int)) (fs:List Bd.Cost) (ps:List Bu.Plan) (es:List Bu.Emit):Prop where
 all:Bu.All ll fs ps es
 may:fs.all Bd.mayBe=true
 tab:∃ c P,Hd.Tab l.length fs l c P
 sizes:∀ p∈ps,0≤p.size∧p.size≤20001
theorem Zeq {ll:List (List (Int×Int))} {l:List (Int×Int)} {c:Bd.Cost} (h:Bd.program ll l=(c,0)):(Bd.funcs ll).2.2=0∧ProgOk ll l (Bd.funcs ll).1 (Bu.plans (Bd.funcs ll).1 ll []) (Bu.emits (Bu.plans (Bd.funcs ll).1 ll []) []):=by
 unfold Bd.program at h;split at h
 ·rename_i hne;simp at h;exact absurd h.2 hne
 ·rename_i hz;have hz':(Bd.funcs ll).2.2=0:=by omega
  refine⟨hz',?_⟩;have hA:=Bu.all_of hz';generalize (Bd.funcs ll).1=fs at *;generalize Bu.plans fs ll []=ps at *;generalize Bu.emits ps []=es at *;unfold Bd.whole at h;split at h
  ·rename_i hne;simp at h;exact absurd h.2 hne
  ·rename_i hz2;have hcode:=Bu.code_zero (l:=l) (cs:=fs) (by omega);obtain⟨P,hP⟩:=Hd.code_tab hcode;refine⟨hA,?_,⟨_,P,hP⟩,fun p hp=>?_⟩
   ·unfold Bd.code at hz2;split at hz2
    ·assumption
    ·simp at hz2
   ·obtain⟨j,hj⟩:=List.mem_iff_getElem?.1 hp;have hjl:=(List.getElem?_eq_some_iff.1 hj).1;obtain⟨_,_,_,_,_,_,hpj,_⟩:=hA.fn j _ (List.getElem?_eq_getElem (by rw[←hA.pn];exact hjl));rw[hj] at hpj
    injection hpj with hpj
    obtain⟨b1,b2,_⟩:=Bu.planned_bds (fs.take j) ps (ll[j]'(by rw[←hA.pn];exact hjl));rw[hpj];exact⟨b1,b2⟩
theorem ProgOk.plan {ll:List (List (Int×Int))} {l:List (Int×Int)} {fs:List Bd.Cost} {ps:List Bu.Plan} {es:List Bu.Emit} (h:ProgOk ll l fs ps es) (hn:∀ l∈ll,l.length≤100000) (hi:∀ l∈ll,∀ x∈l,I64 x.2) {j:Nat} {lj:List (Int×Int)} (hj:ll[j]?=some lj) :
  Bu.CodeFine fs (ps.take j) (ps.take j).length lj∧ps[j]?=some (Bu.planned lj fs (ps.take j))∧(∀ s∈(Bu.planned lj fs (ps.take j)).steps,I64 s.op∧I64 s.a∧I64 s.high∧I64 (s.go:Int)):=by
 have hjl:=(List.getElem?_eq_some_iff.1 hj).1;obtain⟨cj,P,hcj,hcode,hP,hpl,hp,hem,hp2⟩:=h.all.fn j lj hj;have hfl:=h.all.fl;have hpn:=h.all.pn;have e:Bu.planned lj (fs.take j) ps=Bu.planned lj fs (ps.take j):=by
  rw[hp] at hp2;exact Option.some.inj hp2
 have hfine:=Jz fs (ps.take j) hP h.may fun p hp=>h.sizes p (List.mem_of_mem_take hp)
 rw[show (fs.take j).length=(ps.take j).length by rw[List.length_take,List.length_take];omega] at hfine;have hmem:=List.mem_of_getElem? hj;refine⟨hfine,hp2,?_⟩;rw[←e];exact Qw ps hP (hn _ hmem) (hi _ hmem)
theorem Wd {w:World} {B:Nat} {t:TypeId} {size n:Nat} {v:Value} {xs:List Value} (h:w.ownsRow 0 t size v n xs) (hb:∀ g,v.ownBlock=some g→B≤g):w.ownsRow B t size v n xs:=by
 refine⟨h.1,?_⟩;rcases h.2 with h|⟨g,cap,cur,hv,_,hr⟩
 ·exact .inl h
 ·exact .inr ⟨g,cap,cur,hv,hb g (by rw[hv];rfl),hr⟩
def Yw (w:World) (r:List Sr.Reg×Int) (e:Ending) (w':World):Prop:=∃ v,e=.returned (.tuple #[v,.int .i64 r.2])∧Below w.heap.size w w'∧w'.ownsRow w.heap.size 50 5 v r.1.length (Ba r.1)
def BdI (w3:World) (ps:List Bu.Plan) (i:Value) (wr:World):Prop :=
 ∃ (k:Nat) (v:Value),k≤ps.length∧i=.int .i64 (k:Int)∧Blk wr w3.heap.size 86 #[v,.slice none 0 0]∧OwnAt (Ih 0) 89 w3.heap.size wr v (ps.take k)∧Below w3.heap.size w3 wr
theorem Xg:(Tryz.prog.info? 89).map (fun i=>(i.zero,i.size,i.bytes))=some (some (.agg #[.slice none 0 0,.int .i64 0]),2,32):=by kernel_rfl
theorem OwnAt.plans {w:World} {base:Nat} {A:Option Addr} {c:Nat} {q:List Bu.Plan} (h:OwnAt (Ih 0) 89 base w (.slice A q.length c) q):PlansAt w (.slice A q.length c) q:=by
 obtain⟨A',c',e,_,_,hr⟩:=h.form;exact⟨A',c',e,hr⟩
theorem We {w:World} {B:Nat} {t:TypeId} {size:Nat}:w.ownsRow B t size (.slice none 0 0) 0 []:=⟨by simp,.inl ⟨rfl,rfl⟩⟩
theorem Kb (A Am:Option Addr) (c cm:Nat) (cvt:Value) (size:Int) (ll:List (List (Int×Int))) (l:List (Int×Int)) (w:World) (hcv:∃ a n k,cvt=.slice a n k) (hR:RowsAt w w.heap.size A ll) (hl:Reads w w.heap.size 2 Am l.length (Bg l)) (hlen:∀ l∈ll,l.length≤100000) (hn:l.length≤100000) (hi:∀ l∈ll,∀ x∈l,I64 x.2) (hi2:∀ x∈l,I64 x.2) :
  Calls Tryz.prog 14 #[.agg #[.slice A ll.length c,.slice Am l.length cm,cvt,.int .i64 size]] w (Yw w (Bu.build ll l)):=by
 obtain⟨ca,cn,ck,rfl⟩:=hcv;have HPR:=Aa (fun W h1 h2 h3=>Jf A Am c cm w.heap.size (.slice ca cn ck) size ll l W ⟨_,_,_,rfl⟩ h1 h2 h3 (fun l hl=>Nat.le_trans (hlen l hl) (by decide)) (Nat.le_trans hn (by decide)));have hpk:=fun (c:Bd.Cost) (h:Bd.program ll l=(c,0))=>Zeq h
 have hbu:Bu.build ll l=if (Bd.program ll l).2≠0 then([],(Bd.program ll l).2) else if 20000<(Bu.planned l (Bd.funcs ll).1 (Bu.plans (Bd.funcs ll).1 ll [])).size+1 then([],3) else(Bu.emitE (Bu.emits (Bu.plans (Bd.funcs ll).1 ll []) []) (Bu.planned l (Bd.funcs ll).1 (Bu.plans (Bd.funcs ll).1 ll [])) 0 0++[⟨42,0,0,0,(Bd.program ll l).1.delta⟩],0):=rfl
 generalize Bd.program ll l=pr at *;obtain⟨⟨c0,c1,c2,c3⟩,e⟩:=pr;simp only at hbu;have HR:=Aa hR;have HL:=Aa hl;have HFU:=Aa (fun W h1 h2=>No A c w.heap.size ll W h1 h2 (fun l hl=>Nat.le_trans (hlen l hl) (by decide)));have b0:Below w.heap.size w (w.alloc (.cells #[.slice A ll.length c,.slice Am l.length cm,.slice ca cn ck,.int .i64 size] 26)):=aliasBr.alloc Ad _;have HP0:=Aa (Blk.new w 26 #[.slice A ll.length c,.slice Am l.length cm,.slice ca cn ck,.int .i64 size]);have HB0:=Aa b0;have HLEN:=Aa hlen;have HN:=Aa hn;have HI:=Aa hi;have HI2:=Aa hi2;have HPK:=Aa hpk;have HBU0:=Aa hbu;clear hR hl b0 hlen hi hi2 hn hpk hbu;go_enter Tryz.func14,Tryz.ntmps14;go_wp2_with fail
 refine(HPR.out _ (HR.out.below HB0.out Ad) (HL.out.below HB0.out Ad) HB0.out.size).mono ?_;rintro e1 w1 ⟨rfl,hb1⟩;simp only[Qa];have hz1:=hb1.size;simp only[World.size_alloc] at hz1;go_upto_region 2 with fail
 have hbw:Below w.heap.size w (w1.alloc (.cells #[.int .i64 c0,.int .i64 c1,.int .i64 c2,.int .i64 c3] 78)):=(HB0.out.trans (hb1.mono HB0.out.size)).alloc (by omega) _;have hpb:Blk (w1.alloc (.cells #[.int .i64 c0,.int .i64 c1,.int .i64 c2,.int .i64 c3] 78)) w.heap.size 26 #[.slice A ll.length c,.slice Am l.length cm,.slice ca cn ck,.int .i64 size]:=Blk.alloc ((hb1.block _ HP0.out.lt).trans HP0.out) _;have hcb:=Blk.new w1 78 #[.int .i64 c0,.int .i64 c1,.int .i64 c2,.int .i64 c3];have HBW:=Aa hbw;have HPB:=Aa hpb;have HCB:=Aa hcb;have hpl0:=hpb.lt;have p0:=Ab hpb 0 rfl;clear hb1 hbw hpb hcb HPR HP0 HB0;generalize w1.alloc (.cells #[.int .i64 c0,.int .i64 c1,.int .i64 c2,.int .i64 c3] 78)=X1 at *;generalize w1.heap.size=cb at *;by_cases he:e=0
 ·subst he;obtain⟨hz,hok⟩:=HPK.out _ rfl;have hbu:=HBU0.out;rw[if_neg (by simp)] at hbu;generalize Bd.funcs ll=r at *;obtain⟨fs,f1,f2⟩:=r;simp only at hz hok hbu;subst hz;generalize hPS:Bu.plans fs ll []=ps at *;generalize hES:Bu.emits ps []=es at *;have HBU:=Aa hbu;have HOK:=Aa hok;have HPN:=Aa hok.all.pn;have HFL:=Aa hok.all.fl;have H20:=Aa hok.all.l20;clear hPS hES hbu hok HPK HBU0;go_wp2_with fail
  refine(HFU.out _ (HR.out.below HBW.out Ad) HBW.out.size).mono ?_;rintro e2 w3 ⟨A1,c1',rfl,hrd,hb3⟩;have hz3:=hb3.size;have HP3:Hid (Blk w3 w.heap.size 26 #[.slice A ll.length c,.slice Am l.length cm,.slice ca cn ck,.int .i64 size]):=Aa ((hb3.block _ hpl0).trans HPB.out);have HC3:Hid (Blk w3 cb 78 #[.int .i64 c0,.int .i64 c1,.int .i64 c2,.int .i64 c3]):=Aa ((hb3.block _ HCB.out.lt).trans HCB.out);have HB3:Hid (Below w.heap.size w w3):=Aa (HBW.out.trans (hb3.mono HBW.out.size));have HRD:=Aa hrd;clear p0 hpl0 hrd hb3 HBW HPB HCB HFU;have p0:=Ab HP3.out 0 rfl;have hpl:=HP3.out.lt;obtain⟨i0,hi0,hi1,hi2,hi3⟩:=Dc Xg;go_wp2_with fail
  go_loopw [34] (fun i W=>BdI w3 ps i W) (fun i _=>ps.length-(intOf i).toNat)
  case atStart=>exact⟨0,_,Nat.zero_le _,rfl,Blk.new _ _ _,OwnAt.nil _ _ _ _,aliasBr.alloc Ad _⟩
  case round =>
   clear p0;obtain⟨k,v,hk,rfl,hB,hO,hb⟩:=hrel;have hbsz:=hb.size;obtain⟨q,hq⟩:∃ q,q=ps.take k:=⟨_,rfl⟩;rw[←hq] at hO;have hql:q.length=k:=by rw[hq,List.length_take];omega
   obtain⟨Ap,cp,hv,hcp1,hcp2,hrow⟩:=hO.form;subst hv;have HRDr:=Aa (HRD.out.below hb Ad);have HOr:=Aa hO;have HBr:=Aa hB;have HBb:=Aa hb;have HROW:=Aa hrow;have b0:=Ab hB 0 rfl;have hbl:=hB.lt;clear hB hO hb hrow;by_cases hlt:k<ps.length
   ·obtain⟨x,hx⟩:∃ x,ll[k]?=some x:=⟨_,List.getElem?_eq_getElem (by have:=HPN.out;omega)⟩;obtain⟨hfine,hpx,hi64⟩:=HOK.out.plan HLEN.out HI.out hx;rw[←hq] at hfine hpx hi64;have hbx:=Bu.planned_bds fs q x;have hpm:=Jg x fs q wr.drew wr.heap.size;generalize hpl2:Bu.planned x fs q=pl at *;have hll:=HLEN.out x (List.mem_of_getElem? hx);obtain⟨vs,hvs,hin⟩:=HR.out.below (HB3.out.trans (HBb.out.mono HB3.out.size)) Ad;obtain⟨u,hu,Al,cl,rfl,hlr⟩:=hin k x hx;obtain⟨b,off,rfl,hbB,hcells⟩:=hvs.2 (by have:=HPN.out;omega);have d0:=hcells _ _ hu;have hki:(k:Int)<ll.length:=by have:=HPN.out;omega
    have hpn:=HPN.out;have hfl:=HFL.out;have h20:=H20.out;have HPM:=Aa (hpm Al A1 Ap cl c1' cp Ad (by rw[←Dz];exact hlr.more (by omega)) (by exact HRDr.out.more HBb.out.size) (by exact HROW.out) hfine (by omega) (by omega) (by omega) HOK.out.may (fun p hp=>HOK.out.sizes p (by rw[hq] at hp;exact List.mem_of_mem_take hp)));have HI64:=Aa hi64;have HPX:=Aa hpx;have HQ:=Aa hq;have HBX:=Aa hbx;have HQL:=Aa hql;have HLT:=Aa hlt;clear hql hk hlt hpn hfl h20 hpm hlr hvs hin hu hcells hx hfine hpx hi64 hpl2 hq hbx;go_wp2_with fail
    have hS:wr.drew.cell? ⟨w3.heap.size,0,none⟩=some (.slice Ap q.length cp):=b0;refine Bl [6,7,8,10] [1,5] [6,7] 11 (fun wq:World=>wq.cell? ⟨w3.heap.size,0,none⟩=some (.slice Ap q.length cp)) ?_
    iterate 6 (first|refine Ai ?_|refine An hS ?_)
    refine Aq fun K hK=>?_;go_simp
    refine HPM.out.mono ?_;rintro e w5 ⟨v5,rfl,hb5,ho5⟩;have hb5':Below wr.heap.size wr.drew w5:=hb5;obtain⟨A5,c5,hv5,h51,h52,hrow5⟩:=(Zbz ho5 HI64.out).form;subst hv5;have HR5:=Aa hrow5;have h5z:wr.heap.size≤w5.heap.size:=hb5'.size;have HO5:Hid (OwnAt (Ih 0) 89 w3.heap.size w5 (.slice Ap q.length cp) q):=Aa (OwnAt.below (w:=wr.drew) HOr.out hb5' Ad);have HB5:Hid (Blk w5 w3.heap.size 86 #[.slice Ap q.length cp,.slice none 0 0]):=Aa ((hb5'.block _ hbl).trans HBr.out);have HD5:Hid (Below w3.heap.size w3 w5):=Aa (HBb.out.drew.trans (hb5'.mono hbsz));have hS5:w5.cell? ⟨w3.heap.size,0,none⟩=some (.slice Ap q.length cp):=(hb5'.cell (p:=⟨w3.heap.size,0,none⟩) hbl).trans b0;clear hb5 hb5' ho5 hrow5;refine hK _ _ (fun _=>hS5) ?_;clear hK K;refine Aq fun K hK=>?_;go_simp
    have hS6:(w5.alloc (.cells #[.slice A5 pl.steps.length c5,.int .i64 pl.size] 89)).cell? ⟨w3.heap.size,0,none⟩=some (.slice Ap q.length cp):=(World.cell?_alloc_lt _ _ _ (by show w3.heap.size<_;omega)).trans hS5;refine hK _ _ (fun _=>hS6) ?_;clear hK K;refine Aq fun K hK=>?_
    refine Se _ rfl (.tmp 39) (.tmp 45) _ rfl (Ih 0) w3.heap.size 89 i0 _ 32 Tryz.underlying84 hi0 hi1 hi2 hi3 rfl (by decide) (by decide) (Nat.zero_le _) (.slice Ap q.length cp) q rfl (HO5.out.below (aliasBr.alloc Ad _) Ad) w5.heap.size [.slice A5 pl.steps.length c5,.int .i64 pl.size] pl rfl (Blk.new _ _ _) ⟨[.slice A5 pl.steps.length c5],[.int .i64 pl.size],rfl,⟨A5,c5,rfl,h51,h52,(HR5.out.below (aliasBr.alloc Ad _) Ad).more (by simp)⟩,rfl,by have:=HBX.out;unfold I64;simp only;omega⟩ (by have:=HPN.out;have:=H20.out;have:=HQL.out;have:=HLT.out;unfold maxLen;omega) (by have:=HPN.out;have:=H20.out;have:=HQL.out;have:=HLT.out;omega) (by simp only[World.size_alloc];omega) ?_;intro v' w6 hown hg;have hob:=OwnAt.below HO5.out ((Below.refl w5.heap.size w5).alloc Ad (.cells #[.slice A5 pl.steps.length c5,.int .i64 pl.size] 89)) Ad;obtain⟨A6,c6,hv6,_⟩:=hown.form;obtain⟨n6,hn6⟩:∃ n,n=(q++[pl]).length:=⟨_,rfl⟩;rw[←hn6] at hv6;subst hv6;have HB6:=Aa ((HB5.out.alloc (.cells #[.slice A5 pl.steps.length c5,.int .i64 pl.size] 89)).grownOwn hob hg (by decide));have HD6:Hid (Below w3.heap.size w3 w6):=Aa (Ym hob (HD5.out.alloc (by omega) _) hg (by simp only[World.size_alloc];omega) Ad);have HO6:=Aa hown;have x0:=HB6.out.cell 0;have xf:=HB6.out.frozen 0;have xl:=HB6.out.lt;simp only[List.getElem?_toArray,List.getElem?_cons_zero] at x0;clear hown hg hob hn6;refine Aj hK ?_;clear hK K
    iterate 1 (first|refine Ai ?_|refine An hS ?_)
    refine Aq fun K hK=>?_;go_simp
    refine Aj hK ?_;clear hK K;refine Ah ?_;clear hS;have hwk:IntKind.i64.wrap ((k:Int)+1)=(k:Int)+1:=IntWalk.i64_in _ (by have:=HLT.out;have:=HPN.out;have:=H20.out;omega);go_wp2_with fail
    go_roundw
    case rel =>
     have hkk:k<20:=by have:=HLT.out;have:=HPN.out;have:=H20.out;omega
     refine⟨k+1,.slice A6 n6 c6,by have:=HLT.out;omega,by simp,HB6.out.set_ 0 (.slice A6 n6 c6),?_,HD6.out.setCell (p:=⟨w3.heap.size,0,none⟩) Ad _⟩;have e:ps.take (k+1)=q++[pl]:=by rw[List.take_add_one,HPX.out,HQ.out];rfl
     rw[e];exact HO6.out.setCell HB6.out (by decide) (Nat.zero_le _) 0 (.slice A6 n6 c6)
    case measure=>have:=HLT.out;have:=HPN.out;have:=H20.out;simp[intOf];omega
   ·obtain rfl:k=ps.length:=by omega
    have hqe:q=ps:=by rw[hq,List.take_length]
    subst hqe;clear hq;obtain⟨cM,P,hP⟩:=HOK.out.tab;have hpn:=HPN.out;have hfl:=HFL.out;have h20:=H20.out;have hfine:=Jz fs q hP HOK.out.may HOK.out.sizes;rw[show fs.length=q.length by omega] at hfine;have hi64:=Qw q hP HN.out HI2.out;have hst:=Gw hfine;have hpf:=Nc q hP;rw[show fs.length=q.length by omega] at hpf;have hem:=Zfi HOK.out.all HOK.out.may HOK.out.sizes HLEN.out;have hln:=fun hs=>Sm.planned_len (ps:=q) (es:=es) hP (fun i hi=>(Sm.len_all HOK.out.all i (by omega)).2.2) hs (fun i hi=>(Sm.len_all HOK.out.all i (by omega)).1) 0 0
    have hbx:=Bu.planned_bds fs q l;have hpm:=Jg l fs q wr wr.heap.size Am A1 Ap cm c1' cp Ad (by rw[←Dz];exact(HL.out.below (HB3.out.trans (HBb.out.mono HB3.out.size)) Ad).more (by omega)) (HRDr.out.more HBb.out.size) HROW.out hfine (by omega) HN.out (by omega) HOK.out.may HOK.out.sizes;have HBU:=Aa HBU.out;generalize Bu.planned l fs q=pl at *;have HPM:=Aa hpm;have HI64:=Aa hi64;have HPF:=Aa hpf;have HEM:=Aa hem;have HLN:=Aa hln;have p1:wr.cell? ⟨w.heap.size,1,none⟩=some (.slice Am l.length cm):=(HBb.out.cell (p:=⟨w.heap.size,1,none⟩) hpl).trans (HP3.out.cell 1);have HBX0:=Aa hbx;have HST:=Aa hst;have hki:¬ ((q.length:Int)<ll.length):=by have:=HPN.out;omega
    clear hpn hfl h20 hpm hi64 hpf hem hln hfine hP cM P HRDr HROW hbx hst hql hk hlt;go_wp2_with fail
    refine HPM.out.mono ?_;rintro e w5 ⟨v5,rfl,hb5,ho5⟩;obtain⟨A5,c5,hv5,h51,h52,hrow5⟩:=(Zbz ho5 HI64.out).form;subst hv5;have h5z:=hb5.size;have b5:Below wr.heap.size wr (w5.alloc (.cells #[.slice A5 pl.steps.length c5,.int .i64 pl.size] 89)):=hb5.alloc (by omega) _;have HBX:Hid (BuL (w5.alloc (.cells #[.slice A5 pl.steps.length c5,.int .i64 pl.size] 89)) w3.heap.size w3.heap.size (.slice Ap q.length cp) (.slice none 0 0) q []):=Aa ⟨(b5.block _ hbl).trans HBr.out,(HOr.out.below b5 Ad).plans,We,Ad,fun g h=>by cases h⟩;have HD5:=Aa (HB3.out.trans ((HBb.out.trans (b5.mono hbsz)).mono HB3.out.size));have HC5:Hid (Blk (w5.alloc (.cells #[.slice A5 pl.steps.length c5,.int .i64 pl.size] 89)) cb 78 #[.int .i64 c0,.int .i64 c1,.int .i64 c2,.int .i64 c3]):=Aa (((HBb.out.trans (b5.mono hbsz)).block _ HC3.out.lt).trans HC3.out);have HR5:Hid (RowAt (psR 0) 145 (w5.alloc (.cells #[.slice A5 pl.steps.length c5,.int .i64 pl.size] 89)) (w5.alloc (.cells #[.slice A5 pl.steps.length c5,.int .i64 pl.size] 89)).heap.size A5 pl.steps):=Aa ((hrow5.below (aliasBr.alloc Ad (.cells #[.slice A5 pl.steps.length c5,.int .i64 pl.size] 89)) Ad).more (by simp));have HM5:=Aa (Blk.new w5 89 #[.slice A5 pl.steps.length c5,.int .i64 pl.size]);have hwz:IntKind.i64.wrap (pl.size+1)=pl.size+1:=IntWalk.i64_in _ (by have:=HBX0.out;omega);have hcl:=HC3.out.lt;have hcl':=HB3.out.size;clear hb5 ho5 hrow5 b5 p1 b0 HBr HOr HPM;by_cases hsz:(20000:Int)<pl.size+1
    ·have hbu:=HBU.out;rw[if_pos hsz] at hbu;have HBU2:=Aa hbu;clear hbu HBU;go_wp2_with fail
     refine bodyPost_ret (v:=.tuple #[.slice none 0 0,.int .i64 3]) (by simp[results,Tryz.results14,go_sem]) rfl ⟨.slice none 0 0,?_,HD5.out,?_⟩
     ·rw[HBU2.out]
     ·rw[HBU2.out];exact We
    ·have hbu:=HBU.out;rw[if_neg hsz] at hbu;have HBU2:=Aa hbu;have hl:=HLN.out (by have:=HBX0.out;omega);have HEC:=Aa (Od es q q.length Ad (fun j hj=>HEM.out j (by have:=HPN.out;omega)) pl HPF.out _ w3.heap.size w3.heap.size _ _ [] A5 c5 0 0 HBX.out (by simp only[World.size_alloc];omega) HR5.out (by have:=HST.out;have:=HN.out;omega) (by have:=HPN.out;have:=H20.out;exact⟨by omega,by omega,by omega,by omega⟩) (by rw[List.length_nil];have:=HBX0.out;omega));have HL2:=Aa hl;rw[List.nil_append] at HEC;generalize Bu.emitE es pl 0 0=T at *;clear hbu HBU hl HLN HEM HPF;go_wp2_with fail
     refine HEC.out.mono ?_;rintro e w6 ⟨rfl,⟨cv6,hb6⟩,hf6⟩;have h6z:=hf6.below.size;have HC6:Blk w6 cb 78 #[.int .i64 c0,.int .i64 c1,.int .i64 c2,.int .i64 c3]:=(hf6.below.block _ hcl).trans HC5.out;have k1:=Ab HC6 1 rfl;have HB6:=Aa hb6;have HF6:=Aa hf6;have HZ:=Aa hbsz;have H5Z:=Aa h5z;have HL3:=Aa (show T.length<1000000 by have:=HL2.out;have:=HBX0.out;omega);clear hb6 hf6 HC5 HC6 HEC HR5 HM5 hsz;go_wp2_with fail
     refine(Cr w6 w3.heap.size w3.heap.size _ cv6 q T HB6.out (by have:=H5Z.out;have:=HZ.out;simp only[World.size_alloc] at h6z;omega) HL3.out ⟨42,0,0,0,c1⟩).mono ?_;rintro e w7 ⟨rfl,⟨cv7,hb7⟩,hf7⟩;have k2:=Ab hb7.blk 1 rfl;have hbw:=HD5.out.trans ((HF6.out.below.trans hf7.below).mono hcl');have ho:=Wd hb7.code (B:=w.heap.size) fun g h=>Nat.le_trans hcl' (hb7.own g h)
     clear k1 HB6 HF6 hb7 hf7;go_wp2_with fail
     refine bodyPost_ret (v:=.tuple #[cv7,.int .i64 0]) (by simp[results,Tryz.results14,go_sem]) rfl ⟨cv7,?_,hbw,?_⟩
     ·rw[HBU2.out]
     ·rw[HBU2.out];exact ho
 ·have HBU:=Aa HBU0.out;have hne:(e !=0)=true:=by simpa using he
  clear HBU0 HPK HFU;go_wp2_with fail
  refine bodyPost_ret (v:=.tuple #[.slice none 0 0,.int .i64 e]) (by simp[results,Tryz.results14,go_sem]) rfl ⟨.slice none 0 0,?_,HBW.out,?_⟩
  ·rw[HBU.out,if_pos he]
  ·rw[HBU.out,if_pos he];exact We
end Go.Proofs.YtnhebmgibiomnaaGreat

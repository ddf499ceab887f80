/- Parts of the proof, joined: McD MaS. -/
import Derived.Test.YtnhebmgibiomnaaGreatPb8
set_option linter.unusedVariables false
set_option linter.unusedSimpArgs false
set_option maxRecDepth 100000
set_option maxHeartbeats 8000000
namespace Go.Proofs.YtnhebmgibiomnaaGreat
open Go.RowKit Mc
theorem Zfe (v:Value) (vs:List Value) (f:Fm) (fs:List Fm) (hl:vs.length=fs.length):(frC (v::vs) (f::fs))[fs.length*3]?=some v∧(frC (v::vs) (f::fs))[fs.length*3+1]?=some (.int .i64 f.next)∧(frC (v::vs) (f::fs))[fs.length*3+2]?=some (.int .i64 f.more):=by
 have:=Hn vs fs hl;simp only[frC];refine⟨?_,?_,?_⟩ <;> rw[List.getElem?_append_right (by omega),this] <;> simp
theorem Ma (v:Value) (vs:List Value) (f:Fm) (fs:List Fm) (hl:vs.length=fs.length) (n:Nat):(frC (v::vs) (f::fs)).set (fs.length*3+1) (.int .i64 n)=frC (v::vs) ({ f with next:=n } :: fs):=by
 have:=Hn vs fs hl;simp only[frC];rw[List.set_append_right _ _ (by omega),this];simp
theorem Zbf (v:Value) (vs:List Value) (f:Fm) (fs:List Fm) (hl:vs.length=fs.length) (n:Nat):(frC (v::vs) (f::fs)).set (fs.length*3+2) (.int .i64 n)=frC (v::vs) ({ f with more:=n } :: fs):=by
 have:=Hn vs fs hl;simp only[frC];rw[List.set_append_right _ _ (by omega),this];simp
theorem Zbe (v:Value) (vs:List Value) (f:Fm) (fs:List Fm) (hl:vs.length=fs.length):(frC (v::vs) (f::fs)).take (fs.length*3)=frC vs fs:=by
 simp only[frC];exact List.take_left' (Hn vs fs hl)
structure Top (w:World) (mb:Nat) (O:Nat→Prop) (L:Lay) (s:St) (f:Fm) (r:List Fm) (g c:Nat) (v:Value) (vs:List Value):Prop where
 fr:L.fr=.slice (some ⟨g,0,none⟩) (r.length+1) c
 frs:L.frs=v::vs
 vsl:vs.length=r.length
 cap:r.length+1≤c
 capm:c≤maxLen
 gO:O g
 glt:g<w.heap.size
 gmb:g≠mb
 c0:w.cell? ⟨g,r.length*3,none⟩=some v
 c1:w.cell? ⟨g,r.length*3+1,none⟩=some (.int .i64 f.next)
 c2:w.cell? ⟨g,r.length*3+2,none⟩=some (.int .i64 f.more)
 fz:∀ j,w.frozen? ⟨g,j,none⟩=false
 code:Row w O 96 2 v f.code.length (pts f.code)
 codes:Codes w O vs (r.map (·.code))
section
variable {w w' : World} {mb : Nat} {O : Nat → Prop} {L : Lay} {s : St} {f : Fm} {r : List Fm}
theorem MaL.top (h:MaL w mb O L s) (hf:s.frames=f::r):∃ g c v vs,Top w mb O L s f r g c v vs:=by
 have hfr:=h.fr;have hfrc:=h.frc;rw[hf] at hfr hfrc;obtain⟨g,c,hv,hc1,hc2,hg,hgl,hcells,hfz⟩:=hfr.at_ (by simp);rcases hL:L.frs with _|⟨v,vs⟩
 ·rw[hL] at hfrc;exact hfrc.elim
 rw[hL] at hfrc hcells;have hvl:vs.length=r.length:=by simpa using hfrc.2.len
 obtain⟨k0,k1,k2⟩:=Zfe v vs f r hvl;exact⟨g,c,v,vs,by simpa using hv,hL,hvl,by simpa using hc1,hc2,hg,hgl,hfr.ne_blk h.blk (by decide) (by rw[hv];rfl),hcells _ _ k0,hcells _ _ k1,hcells _ _ k2,hfz,hfrc.1,hfrc.2⟩
theorem Top.keep {g c:Nat} {v:Value} {vs:List Value} (ht:Top w mb O L s f r g c v vs) (hk:∀ k,O k→w'.heap[k]?=w.heap[k]?) (hz:w.heap.size≤w'.heap.size):Top w' mb O L s f r g c v vs :=
 ⟨ht.fr,ht.frs,ht.vsl,ht.cap,ht.capm,ht.gO,Nat.lt_of_lt_of_le ht.glt hz,ht.gmb,(World.cell?_of_block (w:=w) (hk g ht.gO)).trans ht.c0,(World.cell?_of_block (w:=w) (hk g ht.gO)).trans ht.c1,(World.cell?_of_block (w:=w) (hk g ht.gO)).trans ht.c2,fun j=>(World.frozen?_of_block (w:=w) (hk g ht.gO)).trans (ht.fz j),ht.code.keep (fun k hk'=>hk k (ht.code.2 k hk')) (fun _ h=>h),ht.codes.keep (fun k _ ho _=>hk k ho) (fun _ h=>h)⟩
theorem Mc.Ok.frames_ (h:Ok s) {fs:List Fm} (h1:∀ f∈fs,f.next≤f.code.length∧f.more≤15∧f.code.length≤1000000) (h2:fs.length≤21):Ok { s with frames:=fs } :=
 ⟨h.stack,h.slen,h.cvt,h.store,h.stl,h.cur,h.org,h.orgl,h.touch,h.tl,h.size,h.look,h.move,h.mode,h.peak,h1,h2,h.funcs,h.fnl,h.cont,h.contl,h.curl,h.cvl,h.endl⟩
theorem MaC.frames_ (h:MaC L s) (fs:List Fm):MaC L { s with frames:=fs } := ⟨h.sz,h.stl,h.st,h.c0,h.c1,h.c2,h.c3,h.c4,h.c5,h.c6,h.c7,h.c40,h.c41,h.c42,h.c43,h.c44,h.c45,h.c46,h.c47,h.c48,h.c49⟩
theorem MaL.setFm (h:MaL w mb O L s) (hf:s.frames=f::r) {g c:Nat} {v:Value} {vs:List Value} (ht:Top w mb O L s f r g c v vs) {f':Fm} {j:Nat} {n:Nat} (hj:j<(r.length+1)*3) (hcode:f'.code=f.code)
  (hset:(frC (v::vs) (f::r)).set j (.int .i64 n)=frC (v::vs) (f'::r)) (hn:f'.next≤f'.code.length∧f'.more≤15) :
  MaL (w.setCell ⟨g,j,none⟩ (.int .i64 n)) mb O L { s with frames:=f'::r } := by
 have hob:L.fr.ownBlock=some g:=by rw[ht.fr];rfl
 have hfr:=h.fr;rw[hf,ht.frs] at hfr;have hflen:=Hn (v::vs) (f::r) (by simp[ht.vsl]);have hrow:=hfr.set_ hob (j:=j) (by rw[hflen];simpa using hj) (.int .i64 n);rw[hset] at hrow;have hk:∀ k,k≠g→(w.setCell ⟨g,j,none⟩ (.int .i64 n)).heap[k]?=w.heap[k]?:=fun k hk=>Below.heap_setCell _ _ _ _ hk
 have hcod:Codes (w.setCell ⟨g,j,none⟩ (.int .i64 n)) O (v::vs) ((f'::r).map (·.code)):=by
  have:=h.frc;rw[hf,ht.frs] at this;simp only[List.map_cons,hcode] at this ⊢;refine this.keep (fun k cs hko hb=>hk k (fun e=>?_)) (fun _ h=>h);obtain⟨_,_,cs2,hb2⟩:=h.fr.block hob;subst e;exact hb.ne_ hb2 (by decide) rfl
 have hokf:=h.ok.frames f (by rw[hf];simp);have:=h.frames_ (u:=L.fr) (cs':=L.cs) (vs:=v::vs) (fs:=f'::r) hcod ((hk mb ht.gmb.symm).trans h.blk) (by rw[←ht.frs];exact h.c.frames_ (f'::r)) (by simpa using hrow) (fun g' hg'=>.inl hg') (fun k _ _ hkk=>hk k (fun e=>hkk (by rw[hob,e]))) (fun _ h=>h) (fun k hk=>by have:=h.olt k hk;simpa [World.setCell] using this)
  (h.ok.frames_ (fun x hx=>by
   rcases List.mem_cons.1 hx with rfl|hx
   ·exact⟨hn.1,hn.2,by rw[hcode];exact hokf.2.2⟩
   ·exact h.ok.frames x (by rw[hf];exact List.mem_cons_of_mem _ hx)) (by have:=h.ok.flen;rw[hf] at this;simpa using this))
 rw[←ht.frs] at this;exact this
end
theorem Zai {s:St} {f:Fm} {r:List Fm} (hf:s.frames=f::r) (n:Nat):pass s n = { s with frames := { f with next:=f.next+n } :: r } := by
 unfold pass;rw[hf];simp
theorem Qy (w:World) (mb:Nat) (O:Nat→Prop) (L:Lay) (s:St) (h:MaL w mb O L s) (f:Fm) (r:List Fm) (hf:s.frames=f::r) (n:Nat) (hn:f.next+n≤f.code.length) :
  Calls Tryz.prog 216 #[.pointer (some ⟨mb,0,none⟩),.int .i64 n] w (MPost w mb O (pass s n)):=by
 obtain⟨g,c,v,vs,ht⟩:=h.top hf;have hokf:=h.ok.frames f (by rw[hf];simp);have h1:=h.drew.setFm hf (f' := { f with next:=f.next+n }) (n:=f.next+n) (j:=r.length*3+1) (ht.keep (fun _ _=>rfl) Ad) (by omega) rfl (Ma v vs f r ht.vsl _) ⟨hn,hokf.2.1⟩;have HP:Hid (MPost w mb O (pass s n) (.returned (.tuple #[])) (w.drew.setCell ⟨g,r.length*3+1,none⟩ (.int .i64 (f.next+n:Nat)))):=Aa (by rw[Zai hf];exact .here h1 ((Fr.refl O w).drew.setCell (.inl ht.gO) _));have hc1:=h.blk.cell 1;rw[h.c.c1,ht.fr] at hc1;have e1:=ht.c1;have e2:=ht.fz (r.length*3+1);have e3:=ht.glt;have e4:=ht.cap;have e5:=ht.gmb;have e6:=h.blk.lt;have hfl:=h.ok.flen;rw[hf,List.length_cons] at hfl;have hb1:=hokf.1;have hb2:=hokf.2.2;clear h h1 ht hf hokf;generalize hm:r.length=m at *;generalize hnx:f.next=nx at *;clear hm hnx;obtain⟨k,hk1,hk2,hk⟩:∃ k,m<k∧k≤m+1∧m+1=k:=⟨m+1,by omega,by omega,rfl⟩;rw[hk] at hc1 e4 hfl;clear hk;have hS:w.drew.cell? ⟨mb,1,none⟩=some (.slice (some ⟨g,0,none⟩) k c)∧w.drew.cell? ⟨g,m*3+1,none⟩=some (.int .i64 nx):=⟨hc1,e1⟩;go_enter Tryz.func216,Tryz.ntmps216;go_wp2_with fail
 refine Bl [17] [3,7,12] [] 18 (fun w':World=>w'.cell? ⟨mb,1,none⟩=some (.slice (some ⟨g,0,none⟩) k c)∧w'.cell? ⟨g,m*3+1,none⟩=some (.int .i64 nx)) ?_
 iterate 3 (refine Ai ?_)
 refine An hS ?_
 iterate 3 (refine Ai ?_)
 refine An hS ?_;refine Ai ?_;refine Em (v:=.int .i64 (m:Int)) rfl rfl rfl (by kernel_rfl) (fun _ _ _ h=>h) (fun wq=>by(go_simp;rw[IntWalk.i64_in _ (by omega)];omega)) ?_;refine Ai ?_;refine Ai ?_;refine An hS ?_;refine Ai ?_;refine Em (v:=.int .i64 ((nx+n:Nat):Int)) rfl rfl rfl (by kernel_rfl) (fun _ _ _ h=>h) (fun wq=>by(go_simp;rw[IntWalk.i64_in _ (by omega)])) ?_;refine Ai ?_;refine Ai ?_;refine Aq fun K hK=>?_;go_simp
 refine Aj hK ?_;clear hK K;refine Ah ?_;go_wp2;go_end0;exact HP.out
end Go.Proofs.YtnhebmgibiomnaaGreat
namespace Go.Proofs.YtnhebmgibiomnaaGreat
open Go.RowKit Mc
theorem Tr:(Tryz.prog.info? 205).map (fun i=>(i.zero,i.size,i.bytes))=some (some (.agg #[.slice none 0 0,.int .i64 0,.int .i64 0]),3,40):=by kernel_rfl
section
variable {w w1 : World} {mb : Nat} {O : Nat → Prop} {L : Lay} {s : St}
theorem MaL.framed (h:MaL w mb O L s) {u v:Value} {code:List (Int×Int)} {more:Nat} (hv:Row w O 96 2 v code.length (pts code)) (hcl:code.length≤1000000) (hm:more≤15) (hl:s.frames.length<21)
  (hrow:Row w1 (ext O w w1) 205 3 u (s.frames.length+1) (frC L.frs s.frames++[v,.int .i64 0,.int .i64 more])) (hg:w.grownBy w1 L.fr.ownBlock) (hnew:∀ g,u.ownBlock=some g→L.fr.ownBlock=some g∨w.heap.size≤g) :
  (∃ cs,Blk w1 mb 212 cs∧cs.size=50)∧(∃ L',MaL (w1.setCell ⟨mb,1,none⟩ u) mb (ext O w w1) L' { s with frames:=⟨code,0,more⟩::s.frames })∧Fr O w (w1.setCell ⟨mb,1,none⟩ u):=by
 have hmb:Blk w1 mb 212 L.cs:=h.blk.grown hg fun e=>h.fr.ne_blk h.blk (by decide) e.symm rfl
 have hz:=hg.size;have hk:∀ k,O k→k≠mb→some k≠L.fr.ownBlock→(w1.setCell ⟨mb,1,none⟩ u).heap[k]?=w.heap[k]?:=by
  intro k hk h1 h2;rw[Below.heap_setCell _ _ _ _ h1];exact hg.block k (h.olt k hk) h2
 have hins:∀ k cs,O k→Blk w k 96 cs→(w1.setCell ⟨mb,1,none⟩ u).heap[k]?=w.heap[k]?:=fun k cs hO hb=>hk k hO (hb.ne_ h.blk (by decide)) (fun e=>by obtain⟨_,_,cs2,hb2⟩:=h.fr.block e.symm;exact hb.ne_ hb2 (by decide) rfl)
 refine⟨⟨_,hmb,h.c.sz⟩,⟨_,h.frames_ (u:=u) (vs:=v::L.frs) (fs:=⟨code,0,more⟩::s.frames) ?_ (hmb.set_ 1 u) (h.c.setFr _ _ _) ?_ hnew hk (fun _ h=>.inl h) ?_ (h.ok.frames_ ?_ ?_)⟩,?_⟩
 ·exact⟨hv.keep (fun g hg=>by obtain⟨h1,_,cs,h2⟩:=hv.block hg;exact hins g cs h1 h2) (fun _ h=>.inl h),h.frc.keep hins (fun _ h=>.inl h)⟩
 ·have:=hrow.keep (w':=w1.setCell ⟨mb,1,none⟩ u) (O':=ext O w w1) (fun g hgb=>Below.heap_setCell _ _ _ _ (fun (e:g=mb)=>hrow.ne_blk hmb (by decide) hgb e)) (fun _ h=>h)
  simpa [frC] using this
 ·intro k hk;have:=h.ext_lt hz k hk
  simpa [World.setCell] using this
 ·intro y hy;rcases List.mem_cons.1 hy with rfl|hy
  ·exact⟨Nat.zero_le _,hm,hcl⟩
  ·exact h.ok.frames y hy
 ·simp only[List.length_cons];omega
 ·exact Fr.setCell (⟨hg.os,hg.tape,hg.output,hg.size,fun k hk hs=>hg.block k hk (fun e=>hs (h.fr.2 k e.symm))⟩) (.inl h.mbO) _
end
theorem Zbm {s:St} {a:Nat} {t:Int} {code:List (Int×Int)} (hc:s.funcs[a]?=some code) (ht:0<t):call s a t = { s with frames:=⟨code,0,(t-1).toNat⟩::s.frames } := by
 unfold call;rw[if_pos ht,Int.toNat_natCast,Bs hc]
theorem Zfn {s:St} {a t:Int} (ht:¬ 0<t):call s a t=s:=by unfold call;rw[if_neg ht]
theorem Mf (w:World) (mb:Nat) (O:Nat→Prop) (L:Lay) (s:St) (h:MaL w mb O L s) (a:Nat) (ha:a<s.funcs.length) (t:Int) (ht:t≤16) (hfl:s.frames.length≤20) :
  Calls Tryz.prog 220 #[.pointer (some ⟨mb,0,none⟩),.int .i64 a,.int .i64 t] w (MPost w mb O (call s a t)):=by
 by_cases h0:0<t
 ·obtain⟨code,hc⟩:∃ x,s.funcs[a]?=some x:=⟨_,List.getElem?_eq_getElem ha⟩;obtain⟨i0,hi0,hi1,hi2,hi3⟩:=Dc Tr;obtain⟨n,rfl⟩:∃ n:Nat,t=(n+1:Nat):=⟨(t-1).toNat,by omega⟩;have HQ:Hid (call s a ((n+1:Nat):Int) = { s with frames:=⟨code,0,n⟩::s.frames }):=Aa (by rw[Zbm hc h0];simp);obtain⟨v,hv,hvr⟩:=h.fuc.get hc;obtain⟨g,cf,hfu,hcf,_,hg,hgl,hcells,hfz⟩:=h.fu.at_ (by omega);have e1:=hcells _ _ hv;have c0:=h.blk.cell 0;rw[h.c.c0,hfu] at c0;have c1:=h.blk.cell 1;rw[h.c.c1] at c1;obtain⟨Ac,cc,hvs,_,_⟩:=hvr.form;have HV:=Aa hvr;have H:=Aa h;have hfnl:=h.ok.fnl;have hcl:=h.ok.funcs code (List.mem_of_getElem? hc);have lmb:=h.blk.lt;have hmbg:mb≠g:=(h.fu.ne_blk h.blk (by decide) (show L.fu.ownBlock=some g by rw[hfu];rfl)).symm;subst hvs;have hn15:n≤15:=by omega
  have hS:w.drew.cell? ⟨mb,0,none⟩=some (.slice (some ⟨g,0,none⟩) s.funcs.length cf)∧w.drew.cell? ⟨mb,1,none⟩=some L.fr∧w.drew.cell? ⟨g,a,none⟩=some (.slice Ac code.length cc):=⟨c0,c1,e1⟩;have HM:=Aa (h.drew.alloc (.cells #[.slice Ac code.length cc,.int .i64 0,.int .i64 n] 205));have hS2:(w.drew.alloc (.cells #[.slice Ac code.length cc,.int .i64 0,.int .i64 n] 205)).cell? ⟨mb,0,none⟩=some (.slice (some ⟨g,0,none⟩) s.funcs.length cf)∧(w.drew.alloc (.cells #[.slice Ac code.length cc,.int .i64 0,.int .i64 n] 205)).cell? ⟨mb,1,none⟩=some L.fr∧(w.drew.alloc (.cells #[.slice Ac code.length cc,.int .i64 0,.int .i64 n] 205)).cell? ⟨g,a,none⟩=some (.slice Ac code.length cc):=⟨(World.cell?_alloc_lt _ _ _ (by simpa using lmb)).trans c0,(World.cell?_alloc_lt _ _ _ (by simpa using lmb)).trans c1,(World.cell?_alloc_lt _ _ _ (by simpa using hgl)).trans e1⟩;clear h hvr hcells hfz hfu hc hv c0 c1 e1;go_enter Tryz.func220,Tryz.ntmps220;go_wp2_with fail
  refine Bl [15,16,19] [4,8,11] [15] 20 (fun w':World=>w'.cell? ⟨mb,0,none⟩=some (.slice (some ⟨g,0,none⟩) s.funcs.length cf)∧w'.cell? ⟨mb,1,none⟩=some L.fr∧w'.cell? ⟨g,a,none⟩=some (.slice Ac code.length cc)) ?_
  iterate 4 (refine Ai ?_)
  refine An hS ?_
  iterate 3 (refine Ai ?_)
  refine An hS ?_;refine Ai ?_;refine Ai ?_;refine An hS ?_;refine Ai ?_;refine Em (v:=.int .i64 (n:Int)) rfl rfl rfl (by kernel_rfl) (fun _ _ _ h=>h) (fun wq=>by(go_simp;rw[IntWalk.i64_in _ (by omega)])) ?_;refine Ai ?_;refine Aq fun K hK=>?_;go_simp
  refine hK _ _ (fun _=>hS2) ?_;clear hK K;refine Aq fun K hK=>?_
  refine Qj _ rfl (.tmp 12) (.tmp 23) _ rfl 205 i0 _ 3 40 Tryz.underlying206 hi0 hi1 hi2 hi3 rfl (by decide) _ _ _ _ rfl HM.out.fr _ _ 1 1 [.slice Ac code.length cc,.int .i64 0,.int .i64 n] rfl (Reads.blk (cs:=[.slice Ac code.length cc,.int .i64 0,.int .i64 n]) (Blk.new _ _ _) 3 1 rfl) (by simp[Value.oneCell']) (by unfold maxLen;omega) (by omega) ?_;intro v' w6 hrow hgr hnew;obtain⟨Av,nv,cv,hve⟩:∃ A n c,v'=.slice A n c:=by obtain⟨A,c,e,_⟩:=hrow.form;exact⟨A,_,c,e⟩
  obtain⟨⟨cs,hcs,hcz⟩,⟨L2,hM2⟩,hF2⟩:=HM.out.framed (HV.out.keep (fun k hk=>Below.heap_alloc _ _ _ (by have:=(HV.out.block hk).2.1;simpa using this)) (fun _ h=>h)) hcl hn15 (by omega) hrow hgr hnew;have HP:Hid (MPost w mb O (call s a ((n+1:Nat):Int)) (.returned (.tuple #[])) (w6.setCell ⟨mb,1,none⟩ v')):=Aa (by
   rw[HQ.out];exact MPost.from_ ((Fr.refl O w).drew.alloc _) ⟨rfl,⟨_,hM2.mono (fun k hk=>by rcases hk with hk|hk;exact .inl hk;exact .inr ⟨hk.1,by simpa [World.setCell] using hk.2⟩) (fun k hk=>hM2.olt k (by rcases hk with hk|hk;exact .inl hk;exact .inr ⟨hk.1,by simpa [World.setCell] using hk.2⟩))⟩,hF2⟩)
  obtain⟨u1,hu1⟩:∃ u,cs[1]?=some u:=⟨_,Array.getElem?_eq_getElem (by omega)⟩;have k0:=hcs.cell 1;rw[hu1] at k0;have k1:=hcs.frozen 1;have k2:=hcs.lt;clear hM2 hF2 hcs hrow hu1 hgr hnew;subst hve;refine Aj hK ?_;clear hK K;refine Ai ?_;refine Ai ?_;refine Aq fun K hK=>?_;go_simp
  refine Aj hK ?_;clear hK K;refine Ah ?_;go_wp2;go_end0;exact HP.out
 ·have HP:=Aa (MPost.here h (Fr.refl O w));rw[Zfn h0];clear h;go_enter Tryz.func220,Tryz.ntmps220;go_wp2;go_end0;exact HP.out
end Go.Proofs.YtnhebmgibiomnaaGreat
namespace Go.Proofs.YtnhebmgibiomnaaGreat
open Go.RowKit Mc
theorem Wy (w:World) (mb:Nat) (O:Nat→Prop) (L:Lay) (s:St) (h:MaL w mb O L s) (f:Fm) (r:List Fm) (hf:s.frames=f::r) (n:Nat) (hn:f.next+n≤f.code.length) :
  Calls Tryz.prog 215 #[.pointer (some ⟨mb,0,none⟩),.int .i64 n] w (MPost w mb O (pass s n)):=by
 have HC:=Aa (Qy w mb O L s h f r hf n hn);clear h hf hn;go_enter Tryz.func215,Tryz.ntmps215;go_wp2_with fail
 refine HC.out.mono ?_;intro e w9 hp;have HP:=Aa hp;obtain⟨rfl,_⟩:=hp;go_wp2;go_end0;exact HP.out
def Hy (s:St) (r:List Int) (x a:Int):St:=if x=0 then pass { s with stack:=r } a else { s with stack:=r }
theorem Tl (s:St) (r:List Int) (a:Int):Hy s r 0 a=pass { s with stack:=r } a:=by unfold Hy;rw[if_pos rfl]
theorem Wz (s:St) (r:List Int) {x:Int} (hx:x≠0) (a:Int):Hy s r x a = { s with stack:=r } := by unfold Hy;rw[if_neg hx]
theorem Kh (w:World) (mb:Nat) (O:Nat→Prop) (L:Lay) (s:St) (h:MaL w mb O L s) (x:Int) (l:List Int) (hs:s.stack=x::l) (f:Fm) (r:List Fm) (hf:s.frames=f::r) (n:Nat) (hn:f.next+n≤f.code.length) :
  Calls Tryz.prog 218 #[.pointer (some ⟨mb,0,none⟩),.int .i64 n] w (MPost w mb O (Hy s l x n)):=by
 have H:=Aa h;have HS:=Aa hs;have HF:=Aa hf;have HN:=Aa hn;clear h hs hf hn;by_cases hx:x=0
 ·subst hx;go_enter Tryz.func218,Tryz.ntmps218;go_wp2_with fail
  refine(Ce w mb O L s H.out _ l HS.out _).mono ?_;rintro e w' ⟨rfl,ht,hb1⟩;obtain⟨L',hM⟩:=ht.ma;have HM:=Aa hM;have HT:=Aa ht;have hlt:=ht.lt;have b1:=hb1.cell 0;have b1l:=hb1.lt;have b1f:=hb1.frozen 0;simp only[List.getElem?_toArray,List.getElem?_cons_zero] at b1;clear ht hM hb1;go_wp2_with fail
  refine(Qy w' mb O L' _ HM.out f r HF.out n HN.out).mono ?_;intro e w9 hp;have HP:=Aa (hp.from_ HT.out.fr);obtain⟨rfl,_⟩:=hp;go_wp2;go_end0;rw[Tl];exact HP.out
 ·have hb:(x==0)=false:=by simpa using hx
  go_enter Tryz.func218,Tryz.ntmps218;go_wp2_with fail
  refine(Ce w mb O L s H.out _ l HS.out _).mono ?_;rintro e w' ⟨rfl,ht,hb1⟩;obtain⟨L',hM⟩:=ht.ma;have HM:=Aa hM;have HT:=Aa ht;have hlt:=ht.lt;have b1:=hb1.cell 0;have b1l:=hb1.lt;have b1f:=hb1.frozen 0;simp only[List.getElem?_toArray,List.getElem?_cons_zero] at b1;clear ht hM hb1;go_wp2;go_end0;rw[Wz _ _ hx];exact .here HM.out HT.out.fr
theorem Tk (w:World) (mb:Nat) (O:Nat→Prop) (L:Lay) (s:St) (h:MaL w mb O L s) (x:Int) (l:List Int) (hs:s.stack=x::l) (f:Fm) (r:List Fm) (hf:s.frames=f::r) (n:Nat) (hn:f.next+n≤f.code.length) :
  Calls Tryz.prog 217 #[.pointer (some ⟨mb,0,none⟩),.int .i64 n] w (MPost w mb O (Hy s l x n)):=by
 have HC:=Aa (Kh w mb O L s h x l hs f r hf n hn);clear h hs hf hn;go_enter Tryz.func217,Tryz.ntmps217;go_wp2_with fail
 refine HC.out.mono ?_;intro e w9 hp;have HP:=Aa hp;obtain⟨rfl,_⟩:=hp;go_wp2;go_end0;exact HP.out
theorem Tz (w:World) (mb:Nat) (O:Nat→Prop) (L:Lay) (s:St) (h:MaL w mb O L s) (a:Nat) (ha:a<s.funcs.length) (hfl:s.frames.length≤20) :
  Calls Tryz.prog 219 #[.pointer (some ⟨mb,0,none⟩),.int .i64 a] w (MPost w mb O (call s a 1)):=by
 have HC:=Aa (Mf w mb O L s h a ha 1 (by decide) hfl);clear h ha hfl;go_enter Tryz.func219,Tryz.ntmps219;go_wp2_with fail
 refine HC.out.mono ?_;intro e w9 hp;have HP:=Aa hp;obtain⟨rfl,_⟩:=hp;go_wp2;go_end0;exact HP.out
theorem Zau (w:World) (mb:Nat) (O:Nat→Prop) (L:Lay) (s:St) (h:MaL w mb O L s) (x:Int) (l:List Int) (hs:s.stack=x::l) (a:Nat) (ha:a<s.funcs.length) (hfl:s.frames.length≤20) :
  Calls Tryz.prog 222 #[.pointer (some ⟨mb,0,none⟩),.int .i64 a] w (MPost w mb O (call { s with stack:=l } a (min x 16))):=by
 have H:=Aa h;have HS:=Aa hs;have hfn:=h.ok.fnl;generalize hmn:min x 16=m;have HMN:=Aa hmn;clear h hs hmn;by_cases hx:16<x
 ·obtain rfl:m=16:=by have:=HMN.out;omega
  go_enter Tryz.func222,Tryz.ntmps222;go_wp2_with fail
  refine(Ce w mb O L s H.out _ l HS.out _).mono ?_;rintro e w' ⟨rfl,ht,hb1⟩;obtain⟨L',hM⟩:=ht.ma;have HM:=Aa hM;have HT:=Aa ht;have hlt:=ht.lt;have b1:=hb1.cell 0;have b1l:=hb1.lt;have b1f:=hb1.frozen 0;simp only[List.getElem?_toArray,List.getElem?_cons_zero] at b1;clear ht hM hb1;go_wp2_with fail
  refine(Mf w' mb O L' _ HM.out a ha _ (by omega) hfl).mono ?_;intro e w9 hp;have HP:=Aa (hp.from_ HT.out.fr);obtain⟨rfl,_⟩:=hp;go_wp2;go_end0;exact HP.out
 ·obtain rfl:m=x:=by have:=HMN.out;omega
  go_enter Tryz.func222,Tryz.ntmps222;go_wp2_with fail
  refine(Ce w mb O L s H.out _ l HS.out _).mono ?_;rintro e w' ⟨rfl,ht,hb1⟩;obtain⟨L',hM⟩:=ht.ma;have HM:=Aa hM;have HT:=Aa ht;have hlt:=ht.lt;have b1:=hb1.cell 0;have b1l:=hb1.lt;have b1f:=hb1.frozen 0;simp only[List.getElem?_toArray,List.getElem?_cons_zero] at b1;clear ht hM hb1;go_wp2_with fail
  refine(Mf w' mb O L' _ HM.out a ha _ (by omega) hfl).mono ?_;intro e w9 hp;have HP:=Aa (hp.from_ HT.out.fr);obtain⟨rfl,_⟩:=hp;go_wp2;go_end0;exact HP.out
theorem Wt (w:World) (mb:Nat) (O:Nat→Prop) (L:Lay) (s:St) (h:MaL w mb O L s) (x:Int) (l:List Int) (hs:s.stack=x::l) (a:Nat) (ha:a<s.funcs.length) (hfl:s.frames.length≤20) :
  Calls Tryz.prog 221 #[.pointer (some ⟨mb,0,none⟩),.int .i64 a] w (MPost w mb O (call { s with stack:=l } a (min x 16))):=by
 have HC:=Aa (Zau w mb O L s h x l hs a ha hfl);clear h hs ha hfl;go_enter Tryz.func221,Tryz.ntmps221;go_wp2_with fail
 refine HC.out.mono ?_;intro e w9 hp;have HP:=Aa hp;obtain⟨rfl,_⟩:=hp;go_wp2;go_end0;exact HP.out
theorem Zcq (w:World) (mb:Nat) (O:Nat→Prop) (L:Lay) (s:St) (h:MaL w mb O L s) (b1 b2:Nat) (axis:Int) (k1:w.cell? ⟨b1,0,none⟩=some (.pointer (some ⟨mb,0,none⟩))) (k2:w.cell? ⟨b2,0,none⟩=some (.int .i64 axis)) (p:Nat) (x:Int×Int) (hx:s.org[p]?=some x) :
  Calls Tryz.prog 262 #[.int .i64 p,.pointer (some ⟨b1,0,none⟩),.pointer (some ⟨b2,0,none⟩)] w fun e w'=>e=.returned (.int .i64 (Az axis x))∧w.drew=w':=by
 have hp:=(List.getElem?_eq_some_iff.1 hx).1;have hcl:s.org.length≤1000000:=by have:=h.ok.curl;have:=h.ok.orgl;omega
 obtain⟨g,c,hv,hc1,hc2,hg,hgl,hcells,hfz⟩:=h.og.at_ (by omega);have d0:=hcells _ _ (Cp hx axis);have cc:=h.blk.cell 2;rw[h.c.c2,hv] at cc;clear h hx hv hcells hfz hc2;generalize hd:(if axis=1 then 1 else 0:Nat)=d at d0;have HD:=Aa hd;clear hd;have hS:w.drew.cell? ⟨b1,0,none⟩=some (.pointer (some ⟨mb,0,none⟩))∧w.drew.cell? ⟨mb,2,none⟩=some (.slice (some ⟨g,0,none⟩) s.org.length c)∧w.drew.cell? ⟨b2,0,none⟩=some (.int .i64 axis)∧w.drew.cell? ⟨g,p*2+d,none⟩=some (.int .i64 (Az axis x)):=⟨k1,cc,k2,d0⟩;go_enter Tryz.func262,Tryz.ntmps262;go_wp2_with fail
 refine Bl [8] [0,4,7,10] [] 12 (fun w':World=>w'.cell? ⟨b1,0,none⟩=some (.pointer (some ⟨mb,0,none⟩))∧w'.cell? ⟨mb,2,none⟩=some (.slice (some ⟨g,0,none⟩) s.org.length c)∧w'.cell? ⟨b2,0,none⟩=some (.int .i64 axis)∧w'.cell? ⟨g,p*2+d,none⟩=some (.int .i64 (Az axis x))) ?_;refine An hS ?_
 iterate 3 (refine Ai ?_)
 refine An hS ?_;refine Ai ?_;refine Ai ?_;refine An hS ?_;refine Aq fun K hK=>?_;go_simp
 refine(Bn _ _ _ _).mono ?_;rintro e w5 ⟨rfl,rfl⟩;rw[HD.out];dsimp only;refine Aj hK ?_;clear hK K;refine Ai ?_;refine An hS ?_;refine Ai ?_;refine Ah ?_;go_wp2;go_ret;exact⟨rfl,rfl⟩
theorem is_any (w:World) (mb:Nat) (O:Nat→Prop) (L:Lay) (s:St) (h:MaL w mb O L s) (b1 b2:Nat) (axis:Int) (k1:w.cell? ⟨b1,0,none⟩=some (.pointer (some ⟨mb,0,none⟩))) (k2:w.cell? ⟨b2,0,none⟩=some (.int .i64 axis)) (p:Nat) (x:Int×Int) (hx:s.cur[p]?=some x) :
  Calls Tryz.prog 263 #[.int .i64 p,.pointer (some ⟨b1,0,none⟩),.pointer (some ⟨b2,0,none⟩)] w fun e w'=>e=.returned (.int .i64 (Az axis x))∧w.drew=w':=by
 have hp:=(List.getElem?_eq_some_iff.1 hx).1;have hcl:s.cur.length≤1000000:=by have:=h.ok.curl;have:=h.ok.orgl;omega
 obtain⟨g,c,hv,hc1,hc2,hg,hgl,hcells,hfz⟩:=h.cu.at_ (by omega);have d0:=hcells _ _ (Cp hx axis);have cc:=h.blk.cell 3;rw[h.c.c3,hv] at cc;clear h hx hv hcells hfz hc2;generalize hd:(if axis=1 then 1 else 0:Nat)=d at d0;have HD:=Aa hd;clear hd;have hS:w.drew.cell? ⟨b1,0,none⟩=some (.pointer (some ⟨mb,0,none⟩))∧w.drew.cell? ⟨mb,3,none⟩=some (.slice (some ⟨g,0,none⟩) s.cur.length c)∧w.drew.cell? ⟨b2,0,none⟩=some (.int .i64 axis)∧w.drew.cell? ⟨g,p*2+d,none⟩=some (.int .i64 (Az axis x)):=⟨k1,cc,k2,d0⟩;go_enter Tryz.func263,Tryz.ntmps263;go_wp2_with fail
 refine Bl [8] [0,4,7,10] [] 12 (fun w':World=>w'.cell? ⟨b1,0,none⟩=some (.pointer (some ⟨mb,0,none⟩))∧w'.cell? ⟨mb,3,none⟩=some (.slice (some ⟨g,0,none⟩) s.cur.length c)∧w'.cell? ⟨b2,0,none⟩=some (.int .i64 axis)∧w'.cell? ⟨g,p*2+d,none⟩=some (.int .i64 (Az axis x))) ?_;refine An hS ?_
 iterate 3 (refine Ai ?_)
 refine An hS ?_;refine Ai ?_;refine Ai ?_;refine An hS ?_;refine Aq fun K hK=>?_;go_simp
 refine(Bn _ _ _ _).mono ?_;rintro e w5 ⟨rfl,rfl⟩;rw[HD.out];dsimp only;refine Aj hK ?_;clear hK K;refine Ai ?_;refine An hS ?_;refine Ai ?_;refine Ah ?_;go_wp2;go_ret;exact⟨rfl,rfl⟩
theorem Lj (a b:Int):w64 (a+w64 b)=w64 (a+b):=by unfold w64;omega
def Zbn (o wa wb ia ib:Int):Int:=if o≤wa then o+ia-wa else if wb≤o then o+ib-wb else ia+divd (w64 (w64 (2*(o-wa)*(ib-ia))+(wb-wa))) (2*(wb-wa))
theorem Rw {o wa wb ia ib:Int} (h:o≤wa):Zbn o wa wb ia ib=o+ia-wa:=by unfold Zbn;rw[if_pos h]
theorem Rv {o wa wb ia ib:Int} (h:¬ o≤wa) (h':wb≤o):Zbn o wa wb ia ib=o+ib-wb:=by unfold Zbn;rw[if_neg h,if_pos h']
theorem Ru {o wa wb ia ib:Int} (h:¬ o≤wa) (h':¬ wb≤o):Zbn o wa wb ia ib=ia+divd (w64 (w64 (2*(o-wa)*(ib-ia))+(wb-wa))) (2*(wb-wa)):=by unfold Zbn;rw[if_neg h,if_neg h']
theorem Le {org cur:List (Int×Int)} {axis:Int} {p a b:Nat} {xp xa xb ya yb:Int×Int} (hp:org[p]?=some xp) (ha:org[a]?=some xa) (hb:org[b]?=some xb) (ha':cur[a]?=some ya) (hb':cur[b]?=some yb) :
  Hq org cur axis p a b=if Az axis xb<Az axis xa then Zbn (Az axis xp) (Az axis xb) (Az axis xa) (Az axis yb) (Az axis ya) else Zbn (Az axis xp) (Az axis xa) (Az axis xb) (Az axis ya) (Az axis yb):=by
 unfold Hq Zbn;simp only[Bs hp,Bs ha,Bs hb];by_cases h:Az axis xb<Az axis xa
 ·simp only[h,if_true,Bs ha,Bs hb,Bs ha',Bs hb']
 ·simp only[h,if_false,Bs ha,Bs hb,Bs ha',Bs hb']
theorem El {_s:St} {l:List (Int×Int)} {i:Nat} {x:Int×Int} (h:∀ p∈l,K32 p.1∧K32 p.2) (hx:l[i]?=some x) (axis:Int) : -2147483648≤Az axis x∧Az axis x≤2147483647:=by
 have:=h x (List.mem_of_getElem? hx);unfold Az;split
 ·exact this.2
 ·exact this.1
theorem Mc.moved_eq {org cur:List (Int×Int)} {axis:Int} {p a b:Nat} {y:Int×Int} (hy:cur[p]?=some y):Lu org axis cur p a b=cur.set p (to_ axis y (w64 (Hq org cur axis p a b))):=by
 unfold Lu;rw[Bs hy]
def Zfs (w:World) (mb:Nat) (O:Nat→Prop) (L:Lay) (s:St) (e:Ending) (w':World):Prop:=e=.returned (.tuple #[])∧MaL w' mb O L s∧Fr O w w'
structure Bt (w:World) (mb:Nat) (O:Nat→Prop) (L:Lay) (s:St) (axis:Int) (W:World):Prop where
 ma:MaL W mb O L s
 k1:W.cell? ⟨w.heap.size,0,none⟩=some (.pointer (some ⟨mb,0,none⟩))
 k2:W.cell? ⟨w.heap.size+1,0,none⟩=some (.int .i64 axis)
 fr:Fr O w W
theorem Bt.drew {w:World} {mb:Nat} {O:Nat→Prop} {L:Lay} {s:St} {axis:Int} {W:World} (h:Bt w mb O L s axis W):Bt w mb O L s axis W.drew:=⟨h.ma.drew,h.k1,h.k2,h.fr.drew⟩
theorem Fe {w:World} {mb:Nat} {O:Nat→Prop} {L:Lay} {s:St} {axis:Int} {W:World} (h:Bt w mb O L s axis W) {p:Nat} {x:Int×Int} (hx:s.org[p]?=some x) {v:Int} (hv:Az axis x=v) :
  Calls Tryz.prog 262 #[.int .i64 p,.pointer (some ⟨w.heap.size,0,none⟩),.pointer (some ⟨w.heap.size+1,0,none⟩)] W fun e w'=>e=.returned (.int .i64 v)∧Bt w mb O L s axis w' :=
 (Zcq W mb O L s h.ma _ _ axis h.k1 h.k2 p x hx).mono fun e w' hh=>⟨by rw[hh.1,hv],by rw[←hh.2];exact h.drew⟩
theorem isB {w:World} {mb:Nat} {O:Nat→Prop} {L:Lay} {s:St} {axis:Int} {W:World} (h:Bt w mb O L s axis W) {p:Nat} {x:Int×Int} (hx:s.cur[p]?=some x) {v:Int} (hv:Az axis x=v) :
  Calls Tryz.prog 263 #[.int .i64 p,.pointer (some ⟨w.heap.size,0,none⟩),.pointer (some ⟨w.heap.size+1,0,none⟩)] W fun e w'=>e=.returned (.int .i64 v)∧Bt w mb O L s axis w' :=
 (is_any W mb O L s h.ma _ _ axis h.k1 h.k2 p x hx).mono fun e w' hh=>⟨by rw[hh.1,hv],by rw[←hh.2];exact h.drew⟩
theorem Qc (w:World) (mb:Nat) (O:Nat→Prop) (L:Lay) (s:St) (h:MaL w mb O L s) (axis:Int) (p a b:Nat) (xp xa xb yp ya yb:Int×Int)
  (hxp:s.org[p]?=some xp) (hxa:s.org[a]?=some xa) (hxb:s.org[b]?=some xb) (hyp:s.cur[p]?=some yp) (hya:s.cur[a]?=some ya) (hyb:s.cur[b]?=some yb) :
  Calls Tryz.prog 257 #[.pointer (some ⟨mb,0,none⟩),.int .i64 p,.int .i64 a,.int .i64 b,.int .i64 axis] w (Zfs w mb O L { s with cur:=Lu s.org axis s.cur p a b }):=by
 have hpl:=(List.getElem?_eq_some_iff.1 hyp).1;have hcl:=h.ok.curl;obtain⟨g,c,hv,hc1,hc2,hg,hgl,hcells,hfz⟩:=h.cu.at_ (by omega);have HB:Hid (Bt w mb O L s axis ((w.alloc (.cells #[.pointer (some ⟨mb,0,none⟩)] 153)).alloc (.cells #[.int .i64 axis] 3))):=Aa ⟨(h.alloc _).alloc _,by rw[World.cell?_alloc_lt _ _ _ (by simp)];exact(Blk.new w _ _).cell 0,(Blk.new_at _ _ _ (by simp)).cell 0,((Fr.refl O w).alloc _).alloc _⟩;have Hxp:=Aa hxp;have Hxa:=Aa hxa;have Hxb:=Aa hxb;have Hya:=Aa hya;have Hyb:=Aa hyb;have B1:=El (_s:=s) h.ok.org hxp axis;have B2:=El (_s:=s) h.ok.org hxa axis;have B3:=El (_s:=s) h.ok.org hxb axis;have B4:=El (_s:=s) h.ok.cur hya axis;have B5:=El (_s:=s) h.ok.cur hyb axis;have HBT:=Aa (Le (axis:=axis) hxp hxa hxb hya hyb);have HC:Hid (∀ (W:World),MaL W mb O L s→W.cell? ⟨mb,3,none⟩=some (.slice (some ⟨g,0,none⟩) s.cur.length c)∧(∃ u,W.cell? ⟨g,p*2+(if axis=1 then 1 else 0),none⟩=some u)∧W.frozen? ⟨g,p*2+(if axis=1 then 1 else 0),none⟩=false):=Aa (fun W hW=>by
  refine⟨by rw[hW.blk.cell,hW.c.c3,hv],?_⟩;obtain⟨g2,c2,hv2,_,_,_,_,hc2,hf2⟩:=hW.cu.at_ (by omega);rw[hv] at hv2
  injection hv2 with hv2
  injection hv2 with hv2
  injection hv2 with hv2
  subst hv2;exact⟨⟨_,hc2 _ _ (Cp hyp axis)⟩,hf2 _⟩)
 have HQ:Hid (∀ (W:World) (u:Int),MaL W mb O L s→Fr O w W→u=k32 (w64 (Hq s.org s.cur axis p a b))→Zfs w mb O L { s with cur:=Lu s.org axis s.cur p a b } (.returned (.tuple #[])) (W.setCell ⟨g,p*2+(if axis=1 then 1 else 0),none⟩ (.int .i64 u))):=Aa (fun W u hW hF hu=>by
  subst hu;rw[moved_eq hyp];exact⟨rfl,hW.setCu hv hyp axis _,hF.setCell (.inl hg) _⟩)
 clear h hxp hxa hxb hyp hya hyb hv hcells hfz hc2 hgl hg;generalize hd:(if axis=1 then 1 else 0:Nat)=d at *;have HD:=Aa hd;clear hd;generalize hwp:Az axis xp=wp at *;generalize hwa:Az axis xa=wa at *;generalize hwb:Az axis xb=wb at *;generalize hia:Az axis ya=ia at *;generalize hib:Az axis yb=ib at *;have Ewp:=Aa hwp;have Ewa:=Aa hwa;have Ewb:=Aa hwb;have Eia:=Aa hia;have Eib:=Aa hib;clear hwp hwa hwb hia hib;by_cases hsw:wb<wa
 ·rw[if_pos hsw] at HBT;by_cases h1:wp≤wb
  ·go_enter Tryz.func257,Tryz.ntmps257;go_wp2_with fail
   refine(Fe HB.out Hxa.out Ewa.out).mono ?_;rintro e w5 ⟨rfl,hb⟩;clear HB;have HB:=Aa hb;clear hb;go_wp2_with fail
   refine(Fe HB.out Hxb.out Ewb.out).mono ?_;rintro e w5 ⟨rfl,hb⟩;clear HB;have HB:=Aa hb;clear hb;go_wp2_with fail
   refine(Fe HB.out Hxp.out Ewp.out).mono ?_;rintro e w5 ⟨rfl,hb⟩;clear HB;have HB:=Aa hb;clear hb;go_wp2_with fail
   refine(Fe HB.out Hxb.out Ewb.out).mono ?_;rintro e w5 ⟨rfl,hb⟩;clear HB;have HB:=Aa hb;clear hb;go_wp2_with fail
   refine(isB HB.out Hyb.out Eib.out).mono ?_;rintro e w5 ⟨rfl,hb⟩;clear HB;have HB:=Aa hb;clear hb;go_wp2_with fail
   refine(Fe HB.out Hxb.out Ewb.out).mono ?_;rintro e w5 ⟨rfl,hb⟩;clear HB;have HB:=Aa hb;clear hb;go_wp2_with fail
   obtain⟨c3,⟨u0,cu⟩,fu⟩:=HC.out w5 HB.out.ma;have hS:w5.drew.cell? ⟨w.heap.size,0,none⟩=some (.pointer (some ⟨mb,0,none⟩))∧w5.drew.cell? ⟨mb,3,none⟩=some (.slice (some ⟨g,0,none⟩) s.cur.length c)∧w5.drew.cell? ⟨w.heap.size+1,0,none⟩=some (.int .i64 axis):=⟨HB.out.k1,c3,HB.out.k2⟩;have l1:=HB.out.ma.blk.lt;refine Aw (fun i=>!([8,10,12]:List Nat).contains i) (fun i=>([0,4,7]:List Nat).contains i) (fun i=>([]:List Nat).contains i) [0,1,2,3,4,5,6,7,9,8,10,11,12] (fun w':World=>w'.cell? ⟨w.heap.size,0,none⟩=some (.pointer (some ⟨mb,0,none⟩))∧w'.cell? ⟨mb,3,none⟩=some (.slice (some ⟨g,0,none⟩) s.cur.length c)∧w'.cell? ⟨w.heap.size+1,0,none⟩=some (.int .i64 axis)) (by kernel_rfl) (by kernel_rfl) (by kernel_rfl) (by kernel_rfl) ?_;refine An hS ?_
   iterate 3 (refine Ai ?_)
   refine An hS ?_;refine Ai ?_;refine Ai ?_;refine An hS ?_;refine Ai ?_;refine Aq fun K hK=>?_;go_simp
   refine(Bn _ _ _ _).mono ?_;rintro e w6 ⟨rfl,rfl⟩;rw[HD.out];dsimp only;refine Aj hK ?_;clear hK K;refine Aq fun K hK=>?_;go_simp
   refine(Ct _ _).mono ?_;rintro e w6 ⟨rfl,rfl⟩;dsimp only;refine Aj hK ?_;clear hK K;refine Ai ?_;refine Aq fun K hK=>?_;go_simp
   refine Aj hK ?_;clear hK K;refine Ah ?_;go_wp2;go_end0;refine HQ.out w5.drew _ HB.out.ma.drew HB.out.fr.drew ?_;rw[HBT.out];rw[Rw (by omega)];exact congrArg k32 (Gf (by omega) (by omega)).symm
  ·skip
   by_cases h2:wa≤wp
   ·go_enter Tryz.func257,Tryz.ntmps257;go_wp2_with fail
    refine(Fe HB.out Hxa.out Ewa.out).mono ?_;rintro e w5 ⟨rfl,hb⟩;clear HB;have HB:=Aa hb;clear hb;go_wp2_with fail
    refine(Fe HB.out Hxb.out Ewb.out).mono ?_;rintro e w5 ⟨rfl,hb⟩;clear HB;have HB:=Aa hb;clear hb;go_wp2_with fail
    refine(Fe HB.out Hxp.out Ewp.out).mono ?_;rintro e w5 ⟨rfl,hb⟩;clear HB;have HB:=Aa hb;clear hb;go_wp2_with fail
    refine(Fe HB.out Hxb.out Ewb.out).mono ?_;rintro e w5 ⟨rfl,hb⟩;clear HB;have HB:=Aa hb;clear hb;go_wp2_with fail
    refine(Fe HB.out Hxa.out Ewa.out).mono ?_;rintro e w5 ⟨rfl,hb⟩;clear HB;have HB:=Aa hb;clear hb;go_wp2_with fail
    refine(isB HB.out Hya.out Eia.out).mono ?_;rintro e w5 ⟨rfl,hb⟩;clear HB;have HB:=Aa hb;clear hb;go_wp2_with fail
    refine(Fe HB.out Hxa.out Ewa.out).mono ?_;rintro e w5 ⟨rfl,hb⟩;clear HB;have HB:=Aa hb;clear hb;go_wp2_with fail
    obtain⟨c3,⟨u0,cu⟩,fu⟩:=HC.out w5 HB.out.ma;have hS:w5.drew.cell? ⟨w.heap.size,0,none⟩=some (.pointer (some ⟨mb,0,none⟩))∧w5.drew.cell? ⟨mb,3,none⟩=some (.slice (some ⟨g,0,none⟩) s.cur.length c)∧w5.drew.cell? ⟨w.heap.size+1,0,none⟩=some (.int .i64 axis):=⟨HB.out.k1,c3,HB.out.k2⟩;have l1:=HB.out.ma.blk.lt;refine Aw (fun i=>!([8,10,12]:List Nat).contains i) (fun i=>([0,4,7]:List Nat).contains i) (fun i=>([]:List Nat).contains i) [0,1,2,3,4,5,6,7,9,8,10,11,12] (fun w':World=>w'.cell? ⟨w.heap.size,0,none⟩=some (.pointer (some ⟨mb,0,none⟩))∧w'.cell? ⟨mb,3,none⟩=some (.slice (some ⟨g,0,none⟩) s.cur.length c)∧w'.cell? ⟨w.heap.size+1,0,none⟩=some (.int .i64 axis)) (by kernel_rfl) (by kernel_rfl) (by kernel_rfl) (by kernel_rfl) ?_;refine An hS ?_
    iterate 3 (refine Ai ?_)
    refine An hS ?_;refine Ai ?_;refine Ai ?_;refine An hS ?_;refine Ai ?_;refine Aq fun K hK=>?_;go_simp
    refine(Bn _ _ _ _).mono ?_;rintro e w6 ⟨rfl,rfl⟩;rw[HD.out];dsimp only;refine Aj hK ?_;clear hK K;refine Aq fun K hK=>?_;go_simp
    refine(Ct _ _).mono ?_;rintro e w6 ⟨rfl,rfl⟩;dsimp only;refine Aj hK ?_;clear hK K;refine Ai ?_;refine Aq fun K hK=>?_;go_simp
    refine Aj hK ?_;clear hK K;refine Ah ?_;go_wp2;go_end0;refine HQ.out w5.drew _ HB.out.ma.drew HB.out.fr.drew ?_;rw[HBT.out];rw[Rv (by omega) (by omega)];exact congrArg k32 (Gf (by omega) (by omega)).symm
   ·go_enter Tryz.func257,Tryz.ntmps257;go_wp2_with fail
    refine(Fe HB.out Hxa.out Ewa.out).mono ?_;rintro e w5 ⟨rfl,hb⟩;clear HB;have HB:=Aa hb;clear hb;go_wp2_with fail
    refine(Fe HB.out Hxb.out Ewb.out).mono ?_;rintro e w5 ⟨rfl,hb⟩;clear HB;have HB:=Aa hb;clear hb;go_wp2_with fail
    refine(Fe HB.out Hxp.out Ewp.out).mono ?_;rintro e w5 ⟨rfl,hb⟩;clear HB;have HB:=Aa hb;clear hb;go_wp2_with fail
    refine(Fe HB.out Hxb.out Ewb.out).mono ?_;rintro e w5 ⟨rfl,hb⟩;clear HB;have HB:=Aa hb;clear hb;go_wp2_with fail
    refine(Fe HB.out Hxa.out Ewa.out).mono ?_;rintro e w5 ⟨rfl,hb⟩;clear HB;have HB:=Aa hb;clear hb;go_wp2_with fail
    refine(Fe HB.out Hxa.out Ewa.out).mono ?_;rintro e w5 ⟨rfl,hb⟩;clear HB;have HB:=Aa hb;clear hb;go_wp2_with fail
    refine(Fe HB.out Hxb.out Ewb.out).mono ?_;rintro e w5 ⟨rfl,hb⟩;clear HB;have HB:=Aa hb;clear hb;go_wp2_with fail
    refine(isB HB.out Hyb.out Eib.out).mono ?_;rintro e w5 ⟨rfl,hb⟩;clear HB;have HB:=Aa hb;clear hb;go_wp2_with fail
    refine(Fe HB.out Hxb.out Ewb.out).mono ?_;rintro e w5 ⟨rfl,hb⟩;clear HB;have HB:=Aa hb;clear hb;go_wp2_with fail
    refine(isB HB.out Hya.out Eia.out).mono ?_;rintro e w5 ⟨rfl,hb⟩;clear HB;have HB:=Aa hb;clear hb;go_wp2_with fail
    refine(isB HB.out Hyb.out Eib.out).mono ?_;rintro e w5 ⟨rfl,hb⟩;clear HB;have HB:=Aa hb;clear hb;go_wp2_with fail
    refine(Gm _ _ _).mono ?_;rintro e w6 ⟨rfl,rfl⟩;go_wp2_with fail
    obtain⟨c3,⟨u0,cu⟩,fu⟩:=HC.out w5 HB.out.ma;have hS:w5.drew.cell? ⟨w.heap.size,0,none⟩=some (.pointer (some ⟨mb,0,none⟩))∧w5.drew.cell? ⟨mb,3,none⟩=some (.slice (some ⟨g,0,none⟩) s.cur.length c)∧w5.drew.cell? ⟨w.heap.size+1,0,none⟩=some (.int .i64 axis):=⟨HB.out.k1,c3,HB.out.k2⟩;have l1:=HB.out.ma.blk.lt;refine Aw (fun i=>!([8,10,12]:List Nat).contains i) (fun i=>([0,4,7]:List Nat).contains i) (fun i=>([]:List Nat).contains i) [0,1,2,3,4,5,6,7,9,8,10,11,12] (fun w':World=>w'.cell? ⟨w.heap.size,0,none⟩=some (.pointer (some ⟨mb,0,none⟩))∧w'.cell? ⟨mb,3,none⟩=some (.slice (some ⟨g,0,none⟩) s.cur.length c)∧w'.cell? ⟨w.heap.size+1,0,none⟩=some (.int .i64 axis)) (by kernel_rfl) (by kernel_rfl) (by kernel_rfl) (by kernel_rfl) ?_;refine An hS ?_
    iterate 3 (refine Ai ?_)
    refine An hS ?_;refine Ai ?_;refine Ai ?_;refine An hS ?_;refine Ai ?_;refine Aq fun K hK=>?_;go_simp
    refine(Bn _ _ _ _).mono ?_;rintro e w6 ⟨rfl,rfl⟩;rw[HD.out];dsimp only;refine Aj hK ?_;clear hK K;refine Aq fun K hK=>?_;go_simp
    refine(Ct _ _).mono ?_;rintro e w6 ⟨rfl,rfl⟩;dsimp only;refine Aj hK ?_;clear hK K;refine Ai ?_;refine Aq fun K hK=>?_;go_simp
    refine Aj hK ?_;clear hK K;refine Ah ?_;go_wp2;go_end0;refine HQ.out w5.drew _ HB.out.ma.drew HB.out.fr.drew ?_;rw[HBT.out];rw[Ru (by omega) (by omega),←Lj];simp only[Ed]
 ·rw[if_neg hsw] at HBT;by_cases h1:wp≤wa
  ·go_enter Tryz.func257,Tryz.ntmps257;go_wp2_with fail
   refine(Fe HB.out Hxa.out Ewa.out).mono ?_;rintro e w5 ⟨rfl,hb⟩;clear HB;have HB:=Aa hb;clear hb;go_wp2_with fail
   refine(Fe HB.out Hxb.out Ewb.out).mono ?_;rintro e w5 ⟨rfl,hb⟩;clear HB;have HB:=Aa hb;clear hb;go_wp2_with fail
   refine(Fe HB.out Hxp.out Ewp.out).mono ?_;rintro e w5 ⟨rfl,hb⟩;clear HB;have HB:=Aa hb;clear hb;go_wp2_with fail
   refine(Fe HB.out Hxa.out Ewa.out).mono ?_;rintro e w5 ⟨rfl,hb⟩;clear HB;have HB:=Aa hb;clear hb;go_wp2_with fail
   refine(isB HB.out Hya.out Eia.out).mono ?_;rintro e w5 ⟨rfl,hb⟩;clear HB;have HB:=Aa hb;clear hb;go_wp2_with fail
   refine(Fe HB.out Hxa.out Ewa.out).mono ?_;rintro e w5 ⟨rfl,hb⟩;clear HB;have HB:=Aa hb;clear hb;go_wp2_with fail
   obtain⟨c3,⟨u0,cu⟩,fu⟩:=HC.out w5 HB.out.ma;have hS:w5.drew.cell? ⟨w.heap.size,0,none⟩=some (.pointer (some ⟨mb,0,none⟩))∧w5.drew.cell? ⟨mb,3,none⟩=some (.slice (some ⟨g,0,none⟩) s.cur.length c)∧w5.drew.cell? ⟨w.heap.size+1,0,none⟩=some (.int .i64 axis):=⟨HB.out.k1,c3,HB.out.k2⟩;have l1:=HB.out.ma.blk.lt;refine Aw (fun i=>!([8,10,12]:List Nat).contains i) (fun i=>([0,4,7]:List Nat).contains i) (fun i=>([]:List Nat).contains i) [0,1,2,3,4,5,6,7,9,8,10,11,12] (fun w':World=>w'.cell? ⟨w.heap.size,0,none⟩=some (.pointer (some ⟨mb,0,none⟩))∧w'.cell? ⟨mb,3,none⟩=some (.slice (some ⟨g,0,none⟩) s.cur.length c)∧w'.cell? ⟨w.heap.size+1,0,none⟩=some (.int .i64 axis)) (by kernel_rfl) (by kernel_rfl) (by kernel_rfl) (by kernel_rfl) ?_;refine An hS ?_
   iterate 3 (refine Ai ?_)
   refine An hS ?_;refine Ai ?_;refine Ai ?_;refine An hS ?_;refine Ai ?_;refine Aq fun K hK=>?_;go_simp
   refine(Bn _ _ _ _).mono ?_;rintro e w6 ⟨rfl,rfl⟩;rw[HD.out];dsimp only;refine Aj hK ?_;clear hK K;refine Aq fun K hK=>?_;go_simp
   refine(Ct _ _).mono ?_;rintro e w6 ⟨rfl,rfl⟩;dsimp only;refine Aj hK ?_;clear hK K;refine Ai ?_;refine Aq fun K hK=>?_;go_simp
   refine Aj hK ?_;clear hK K;refine Ah ?_;go_wp2;go_end0;refine HQ.out w5.drew _ HB.out.ma.drew HB.out.fr.drew ?_;rw[HBT.out];rw[Rw (by omega)];exact congrArg k32 (Gf (by omega) (by omega)).symm
  ·skip
   by_cases h2:wb≤wp
   ·go_enter Tryz.func257,Tryz.ntmps257;go_wp2_with fail
    refine(Fe HB.out Hxa.out Ewa.out).mono ?_;rintro e w5 ⟨rfl,hb⟩;clear HB;have HB:=Aa hb;clear hb;go_wp2_with fail
    refine(Fe HB.out Hxb.out Ewb.out).mono ?_;rintro e w5 ⟨rfl,hb⟩;clear HB;have HB:=Aa hb;clear hb;go_wp2_with fail
    refine(Fe HB.out Hxp.out Ewp.out).mono ?_;rintro e w5 ⟨rfl,hb⟩;clear HB;have HB:=Aa hb;clear hb;go_wp2_with fail
    refine(Fe HB.out Hxa.out Ewa.out).mono ?_;rintro e w5 ⟨rfl,hb⟩;clear HB;have HB:=Aa hb;clear hb;go_wp2_with fail
    refine(Fe HB.out Hxb.out Ewb.out).mono ?_;rintro e w5 ⟨rfl,hb⟩;clear HB;have HB:=Aa hb;clear hb;go_wp2_with fail
    refine(isB HB.out Hyb.out Eib.out).mono ?_;rintro e w5 ⟨rfl,hb⟩;clear HB;have HB:=Aa hb;clear hb;go_wp2_with fail
    refine(Fe HB.out Hxb.out Ewb.out).mono ?_;rintro e w5 ⟨rfl,hb⟩;clear HB;have HB:=Aa hb;clear hb;go_wp2_with fail
    obtain⟨c3,⟨u0,cu⟩,fu⟩:=HC.out w5 HB.out.ma;have hS:w5.drew.cell? ⟨w.heap.size,0,none⟩=some (.pointer (some ⟨mb,0,none⟩))∧w5.drew.cell? ⟨mb,3,none⟩=some (.slice (some ⟨g,0,none⟩) s.cur.length c)∧w5.drew.cell? ⟨w.heap.size+1,0,none⟩=some (.int .i64 axis):=⟨HB.out.k1,c3,HB.out.k2⟩;have l1:=HB.out.ma.blk.lt;refine Aw (fun i=>!([8,10,12]:List Nat).contains i) (fun i=>([0,4,7]:List Nat).contains i) (fun i=>([]:List Nat).contains i) [0,1,2,3,4,5,6,7,9,8,10,11,12] (fun w':World=>w'.cell? ⟨w.heap.size,0,none⟩=some (.pointer (some ⟨mb,0,none⟩))∧w'.cell? ⟨mb,3,none⟩=some (.slice (some ⟨g,0,none⟩) s.cur.length c)∧w'.cell? ⟨w.heap.size+1,0,none⟩=some (.int .i64 axis)) (by kernel_rfl) (by kernel_rfl) (by kernel_rfl) (by kernel_rfl) ?_;refine An hS ?_
    iterate 3 (refine Ai ?_)
    refine An hS ?_;refine Ai ?_;refine Ai ?_;refine An hS ?_;refine Ai ?_;refine Aq fun K hK=>?_;go_simp
    refine(Bn _ _ _ _).mono ?_;rintro e w6 ⟨rfl,rfl⟩;rw[HD.out];dsimp only;refine Aj hK ?_;clear hK K;refine Aq fun K hK=>?_;go_simp
    refine(Ct _ _).mono ?_;rintro e w6 ⟨rfl,rfl⟩;dsimp only;refine Aj hK ?_;clear hK K;refine Ai ?_;refine Aq fun K hK=>?_;go_simp
    refine Aj hK ?_;clear hK K;refine Ah ?_;go_wp2;go_end0;refine HQ.out w5.drew _ HB.out.ma.drew HB.out.fr.drew ?_;rw[HBT.out];rw[Rv (by omega) (by omega)];exact congrArg k32 (Gf (by omega) (by omega)).symm
   ·go_enter Tryz.func257,Tryz.ntmps257;go_wp2_with fail
    refine(Fe HB.out Hxa.out Ewa.out).mono ?_;rintro e w5 ⟨rfl,hb⟩;clear HB;have HB:=Aa hb;clear hb;go_wp2_with fail
    refine(Fe HB.out Hxb.out Ewb.out).mono ?_;rintro e w5 ⟨rfl,hb⟩;clear HB;have HB:=Aa hb;clear hb;go_wp2_with fail
    refine(Fe HB.out Hxp.out Ewp.out).mono ?_;rintro e w5 ⟨rfl,hb⟩;clear HB;have HB:=Aa hb;clear hb;go_wp2_with fail
    refine(Fe HB.out Hxa.out Ewa.out).mono ?_;rintro e w5 ⟨rfl,hb⟩;clear HB;have HB:=Aa hb;clear hb;go_wp2_with fail
    refine(Fe HB.out Hxb.out Ewb.out).mono ?_;rintro e w5 ⟨rfl,hb⟩;clear HB;have HB:=Aa hb;clear hb;go_wp2_with fail
    refine(Fe HB.out Hxb.out Ewb.out).mono ?_;rintro e w5 ⟨rfl,hb⟩;clear HB;have HB:=Aa hb;clear hb;go_wp2_with fail
    refine(Fe HB.out Hxa.out Ewa.out).mono ?_;rintro e w5 ⟨rfl,hb⟩;clear HB;have HB:=Aa hb;clear hb;go_wp2_with fail
    refine(isB HB.out Hya.out Eia.out).mono ?_;rintro e w5 ⟨rfl,hb⟩;clear HB;have HB:=Aa hb;clear hb;go_wp2_with fail
    refine(Fe HB.out Hxa.out Ewa.out).mono ?_;rintro e w5 ⟨rfl,hb⟩;clear HB;have HB:=Aa hb;clear hb;go_wp2_with fail
    refine(isB HB.out Hyb.out Eib.out).mono ?_;rintro e w5 ⟨rfl,hb⟩;clear HB;have HB:=Aa hb;clear hb;go_wp2_with fail
    refine(isB HB.out Hya.out Eia.out).mono ?_;rintro e w5 ⟨rfl,hb⟩;clear HB;have HB:=Aa hb;clear hb;go_wp2_with fail
    refine(Gm _ _ _).mono ?_;rintro e w6 ⟨rfl,rfl⟩;go_wp2_with fail
    obtain⟨c3,⟨u0,cu⟩,fu⟩:=HC.out w5 HB.out.ma;have hS:w5.drew.cell? ⟨w.heap.size,0,none⟩=some (.pointer (some ⟨mb,0,none⟩))∧w5.drew.cell? ⟨mb,3,none⟩=some (.slice (some ⟨g,0,none⟩) s.cur.length c)∧w5.drew.cell? ⟨w.heap.size+1,0,none⟩=some (.int .i64 axis):=⟨HB.out.k1,c3,HB.out.k2⟩;have l1:=HB.out.ma.blk.lt;refine Aw (fun i=>!([8,10,12]:List Nat).contains i) (fun i=>([0,4,7]:List Nat).contains i) (fun i=>([]:List Nat).contains i) [0,1,2,3,4,5,6,7,9,8,10,11,12] (fun w':World=>w'.cell? ⟨w.heap.size,0,none⟩=some (.pointer (some ⟨mb,0,none⟩))∧w'.cell? ⟨mb,3,none⟩=some (.slice (some ⟨g,0,none⟩) s.cur.length c)∧w'.cell? ⟨w.heap.size+1,0,none⟩=some (.int .i64 axis)) (by kernel_rfl) (by kernel_rfl) (by kernel_rfl) (by kernel_rfl) ?_;refine An hS ?_
    iterate 3 (refine Ai ?_)
    refine An hS ?_;refine Ai ?_;refine Ai ?_;refine An hS ?_;refine Ai ?_;refine Aq fun K hK=>?_;go_simp
    refine(Bn _ _ _ _).mono ?_;rintro e w6 ⟨rfl,rfl⟩;rw[HD.out];dsimp only;refine Aj hK ?_;clear hK K;refine Aq fun K hK=>?_;go_simp
    refine(Ct _ _).mono ?_;rintro e w6 ⟨rfl,rfl⟩;dsimp only;refine Aj hK ?_;clear hK K;refine Ai ?_;refine Aq fun K hK=>?_;go_simp
    refine Aj hK ?_;clear hK K;refine Ah ?_;go_wp2;go_end0;refine HQ.out w5.drew _ HB.out.ma.drew HB.out.fr.drew ?_;rw[HBT.out];rw[Ru (by omega) (by omega),←Lj];simp only[Ed]
end Go.Proofs.YtnhebmgibiomnaaGreat

import Derived.Test.YtnhebmgibiomnaaGreatPi1
import Derived.Test.YtnhebmgibiomnaaGreatPi2
set_option linter.unusedVariables false
set_option linter.unusedSimpArgs false
set_option maxRecDepth 100000
set_option maxHeartbeats 8000000
namespace Go.Proofs.YtnhebmgibiomnaaGreat
section
open Go Go.RowKit
section
variable {P : Program} {ops : Array Oper} {Q : Exit → Act → World → Prop} {S : World → Prop} {T U aU : Nat → Bool}
theorem Cv {id:Nat}{a:Act}{w:World}(t u nd:List Nat)(n:Nat)(S:World→Prop) (h:Ef P ops Q S (fun i=>!t.contains i) (fun i=>u.contains i) (fun i=>nd.contains i) (List.range n) a w.drew) (hm:P.follows .mixedOrders=true:=by kernel_rfl) (hsel:Region.noSelect ops=true:=by kernel_rfl) (hlen:(List.range n).length=ops.size:=by kernel_rfl)
  (hc:Ob ops (fun i=>!t.contains i) (fun i=>u.contains i) (fun i=>nd.contains i) (List.range n) (Array.replicate ops.size false)=true:=by kernel_rfl):(Code.region id ops true).wp P Q a w:=Bs _ _ _ _ S hm hsel hlen hc h
theorem Be {i:Nat}{r:List Nat}{a:Act}{w:World}{o:Oper}{v:Value} (h:Ef P ops Q S T U aU r (a.put o.dst v) w) (hT:T i=true:=by exact rfl) (hU:U i=false:=by exact rfl) (ho:ops[i]?=some o:=by exact rfl)
  (hw:Region.wanted o (yielded ops a.tmps)=true:=by kernel_rfl) (hQ:∀c a w,Q (.panic c) (a.put o.dst v) w→Q (.panic c) a w:=by exact fun _ _ _ h=>h) (hy:∀wq,(execOp a.eval o).run P wq=.ok (.value v) wq:=by intro wq;first|(go_simp;done)|(go_simp;rfl)) :
  Ef P ops Q S T U aU (i::r) a w:=Hi hT hU ho hw hQ hy h
theorem Bj {i:Nat}{r:List Nat}{a:Act}{w:World}{o:Oper}{v:Value}(hS:S w) (h:Ef P ops Q S T U aU r (a.put o.dst v) w) (hT:T i=true:=by exact rfl) (ho:ops[i]?=some o:=by exact rfl) (hU:U i=true:=by exact rfl)
  (hw:Region.wanted o (yielded ops a.tmps)=true:=by kernel_rfl) (hQ:∀c a w,Q (.panic c) (a.put o.dst v) w→Q (.panic c) a w:=by exact fun _ _ _ h=>h)
  (hy:∀wq,S wq→(execOp a.eval o).run P wq=.ok (.value v) wq:=by intro wq hq;(try have hq1:=hq.1);(try have hq2:=hq.2.1);(try have hq3:=hq.2.2.1);(try have hq4:=hq.2.2.2.1);(try have hq5:=hq.2.2.2.2.1);(try have hq6:=hq.2.2.2.2.2.1);(try have hq7:=hq.2.2.2.2.2.2);(try have hr2:=hq.2);(try have hr3:=hq.2.2);(try have hr4:=hq.2.2.2);(try have hr5:=hq.2.2.2.2);first|(go_simp;done)|(go_simp;rfl)) :
  Ef P ops Q S T U aU (i::r) a w:=Gl hT ho hw hQ hS hU hy h
theorem Bi {i:Nat}{r:List Nat}{a:Act}{w:World}{o:Oper} (h:∀K:Act→World→Prop,(∀a' w',(aU i=true→S w')→Ef P ops Q S T U aU r a' w'→K a' w')→if Region.wanted o (yielded ops a.tmps)=true then o.wp P a w K Q else K (a.put o.dst undef) w) (hT:T i=false:=by exact rfl) (ho:ops[i]?=some o:=by exact rfl):Ef P ops Q S T U aU (i::r) a w:=Si hT ho h
theorem Cj {md:Region.Mode}{i:Nat}{oi:Oper}{fuel:Nat}{listed:Array Bool}{a:Act}{w:World} (h:wpAny P md ops Q fuel (listed.setIfInBounds i true) (a.put oi.dst undef) w) (hi:ops[i]?=some oi:=by exact rfl)
  (hs:Region.noSelect ops=true:=by kernel_rfl) (hf:Region.free md ops listed i=true:=by kernel_rfl) (hr:(Region.ready md ops listed).contains i=true:=by kernel_rfl)
  (hQ:∀c a w,Q (.panic c) (a.put oi.dst undef) w→Q (.panic c) a w:=by exact fun _ _ _ h=>h) (hy:Yields P ops oi undef a:=by exact Or.inr ⟨by kernel_rfl,rfl⟩):wpAny P md ops Q (fuel+1) listed a w:=wpAny_take hi hs hf hr hQ hy h
theorem Dt {md:Region.Mode}{i:Nat}{oi:Oper}{v:Value}{fuel:Nat}{listed:Array Bool}{a:Act}{w:World} (h:wpAny P md ops Q fuel (listed.setIfInBounds i true) (a.put oi.dst v) w) (hi:ops[i]?=some oi:=by exact rfl)
  (hs:Region.noSelect ops=true:=by kernel_rfl) (hf:Region.free md ops listed i=true:=by kernel_rfl) (hr:(Region.ready md ops listed).contains i=true:=by kernel_rfl)
  (hQ:∀c a w,Q (.panic c) (a.put oi.dst v) w→Q (.panic c) a w:=by exact fun _ _ _ h=>h) (hy:Yields P ops oi v a:=by exact Or.inl ⟨by kernel_rfl,fun w=>by first|(go_simp;done)|rfl⟩):wpAny P md ops Q (fuel+1) listed a w:=wpAny_take hi hs hf hr hQ hy h
theorem Cq {md:Region.Mode}{i:Nat}{oi:Oper}{v:Value}{fuel:Nat}{listed:Array Bool}{a:Act}{w:World}(hS:S w) (h:wpAnyH P md ops Q S fuel (listed.setIfInBounds i true) (a.put oi.dst v) w) (hi:ops[i]?=some oi:=by exact rfl)
  (hs:Region.noSelect ops=true:=by kernel_rfl) (hf:Region.free md ops listed i=true:=by kernel_rfl) (hr:(Region.ready md ops listed).contains i=true:=by kernel_rfl)
  (hQ:∀c a w,Q (.panic c) (a.put oi.dst v) w→Q (.panic c) a w:=by exact fun _ _ _ h=>h) (hy:YieldsIf P ops S oi v a:=by exact Or.inl ⟨by kernel_rfl,fun wq hq=>by first|(go_simp;done)|rfl⟩):wpAnyH P md ops Q S (fuel+1) listed a w:=wpAnyH_take hi hs hf hr hQ hy hS h
theorem Bh {A:Prop}{S:World→Prop}{X:Act→World→Prop}{a:Act}{w:World}{K:Act→World→Prop} (hK:∀a' w',(A→S w')→X a' w'→K a' w') (h:X a w) (hn:A→False:=by exact fun e=>by cases e):K a w:=hK _ _ (fun e=>(hn e).elim) h
end
theorem Ev.bY {ops:Array Oper}{a0:Act}{val:Nat→Value}{i:Nat}{ev:Operand→Value}(h:Ev ops a0 val i ev)(j d:Nat)(h1:cw ops i j=true:=by kernel_rfl)(h2:Fw ops j=some d:=by kernel_rfl):ev (.tmp d)=val j:=h.lH j d h1 h2
abbrev Cl (l:List Nat):Nat→Bool:=fun i=>!l.contains i
abbrev Bm (l:List Nat):Nat→Bool:=fun i=>l.contains i
theorem aliasCk {w:World}{g:Nat}{t:TypeId}{cs:Array Value}(h:aH w g t cs)(i:Nat){v:Value} (e:cs[i]?=some v):w.cell? ⟨g,i,none⟩=some v:=(h.cell i).trans e
abbrev Aj (n:Int):Value:=.int .i64 n
abbrev Ax:=@Array.getElem?_setIfInBounds_ne
abbrev Bf:=@List.getElem?_eq_getElem
abbrev Ay:=@List.getElem?_cons_zero
abbrev Az:=@List.getElem?_toArray
abbrev Bo:=@List.getD_eq_getElem?_getD
abbrev Ba:=@List.getElem?_cons_succ
abbrev aS:=@List.getElem?_eq_some_iff
abbrev Bp:=@List.length_cons
abbrev Ca:=@List.length_append
abbrev Cc:=@World.cell?_alloc_lt
abbrev Bq:=@Below.heap_setCell
abbrev Bz:=@List.mem_of_getElem?
abbrev bO:=@Array.getElem?_eq_some_iff
abbrev Bw:=@Option.some.injEq
abbrev Cd:=@List.getElem?_map
abbrev Bx:=@List.length_nil
abbrev aliasL16:=@List.length_drop
abbrev Dv:=@List.getElem?_append_right
abbrev Eb:=@Array.getElem?_setIfInBounds_self_of_lt
abbrev Fa:=@Bool.and_eq_true
abbrev Da:=@Int.toNat_natCast
abbrev Dm:=@Int.eq_ofNat_of_zero_le
abbrev Dx:=@Array.size_setIfInBounds
abbrev Du:=@List.length_take
abbrev Dh:=@List.length_set
abbrev Dq:=@Nat.lt_of_lt_of_le
abbrev Ez:=@List.getElem?_append_left
abbrev Jc:=@List.getElem?_set
abbrev Gc:=@List.length_map
theorem Aq {p:Prop}(h:p):Hid p:=Lib.hid h
theorem Aw {n:Nat}:n≤n:=Nat.le_refl n
theorem aI {n:Nat}{w:World}:Below n w w:=Below.refl n w
theorem _root_.Go.RowKit.Hid.o {p:Prop}(h:Go.RowKit.Hid p):p:=h
abbrev By:=@Nat.zero_le
abbrev Do:=@IntWalk.i64_in
abbrev Ex:=@Nat.le_trans
abbrev If:=@List.mem_cons
abbrev eq:=@List.not_mem_nil
abbrev ge:=@List.getElem?_eq_none
abbrev le:=@List.nil_append
abbrev mt:=@Nat.add_assoc
abbrev ny:=@Below.refl
abbrev nz:=@Nat.zero_add
abbrev oa:=@List.getElem?_range
abbrev od:=@List.range_succ
abbrev oe:=@Nat.lt_or_ge
abbrev oh:=@Nat.add_zero
abbrev ol:=@World.cell?_setCell_other
abbrev om:=@List.length_singleton
abbrev oq:=@List.map_append
abbrev ot:=@Below.setCell
abbrev ou:=@Below.drew
abbrev ov:=@Below.alloc
abbrev ow:=@Nat.mul_one
abbrev ox:=@List.append_assoc
abbrev oy:=@List.cons_append
abbrev oz:=@Bool.false_ne_true
abbrev oB:=@List.getElem?_take
abbrev oC:=@List.take_add_one
abbrev oD:=@List.map_cons
abbrev oE:=@List.set_cons_succ
abbrev oG:=@List.length_replicate
abbrev oH:=@Option.map_some
abbrev oI:=@List.mem_or_eq_of_mem_set
abbrev oJ:=@List.ext_getElem?
abbrev oK:=@Option.getD_some
abbrev oL:=@List.take_of_length_le
abbrev oM:=@List.setIfInBounds_toArray
abbrev oN:=@Nat.mul_comm
abbrev oO:=@List.append_nil
abbrev oP:=@List.mem_cons_self
abbrev oQ:=@Nat.eq_zero_or_pos
abbrev oR:=@List.map_nil
abbrev oS:=@List.set_append_right
abbrev oT:=@List.mem_cons_of_mem
abbrev oU:=@Option.some.inj
abbrev oV:=@List.set_cons_zero
abbrev oW:=@List.eq_of_mem_replicate
abbrev oX:=@List.length_reverse
abbrev oY:=@List.flatten_cons
abbrev oZ:=@Nat.succ_mul
abbrev o_:=@World.block_lt_of_cell?
abbrev pa:=@World.size_drew
abbrev pd:=@List.getElem?_of_mem
abbrev pm:=@Int.emod_nonneg
abbrev po:=@Int.emod_lt_of_pos
abbrev pp:=@Nat.min_eq_left
abbrev pq:=@Below.heap_alloc
abbrev pu:=@List.eq_nil_of_length_eq_zero
abbrev pw:=@Nat.add_sub_cancel_left
abbrev px:=@Option.bind_some
abbrev py:=@List.mem_singleton
abbrev pB:=@List.take_length
abbrev pC:=@List.flatMap_cons
abbrev pD:=@Nat.mul_le_mul_right
abbrev pE:=@List.map_congr_left
abbrev pF:=@List.flatMap_append
abbrev pG:=@Nat.le_refl
abbrev pH:=@List.cons.injEq
abbrev pI:=@List.drop_eq_getElem_cons
abbrev pJ:=@Int.le_refl
abbrev pK:=@List.map_take
abbrev pL:=@Array.toList_map
abbrev pM:=@Array.toList_range
abbrev pN:=@Bool.false_eq_true
abbrev pO:=@List.getElem?_set_self
abbrev pP:=@List.take_succ_cons
abbrev pQ:=@List.flatten_append
abbrev pR:=@IntWalk.wrap64_in
abbrev pS:=@List.map_set
abbrev pT:=@List.getElem?_replicate
abbrev pU:=@Int.le_total
abbrev pV:=@Int.mul_le_mul
abbrev pW:=@World.cell?_of_block
abbrev pX:=@List.foldl_append
abbrev pY:=@List.foldl_cons
abbrev pZ:=@List.toList_toArray
abbrev p_:=@Int.toNat_of_nonneg
abbrev qa:=@List.map_map
abbrev qc:=@List.length_range
abbrev qd:=@List.size_toArray
abbrev qf:=@Array.replicate_succ
abbrev qg:=@Array.replicate_zero
abbrev qj:=@List.push_toArray
abbrev qm:=@List.append_toArray
abbrev qn:=@Below.trans
abbrev qo:=@Nat.sub_self
abbrev qp:=@List.mem_of_mem_take
abbrev qr:=@Array.toList_setIfInBounds
abbrev qt:=@List.reverse_cons
abbrev qu:=@Array.getElem?_eq_none
abbrev qv:=@List.replicate_succ'
abbrev qw:=@List.map_replicate
abbrev qx:=@List.eq_replicate_iff
abbrev qy:=@Array.getElem?_eq_getElem
abbrev qz:=@List.getLast?_eq_getElem?
abbrev qA:=@List.getElem_mem
abbrev qB:=@Int.tmod_eq_emod_of_nonneg
abbrev qC:=@List.flatMap_def
abbrev qD:=@List.replicate_succ
abbrev qE:=@Int.mul_le_mul_of_nonneg_right
end
end Go.Proofs.YtnhebmgibiomnaaGreat

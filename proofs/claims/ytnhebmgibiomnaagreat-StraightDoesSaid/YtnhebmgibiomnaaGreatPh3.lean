import Derived.Test.YtnhebmgibiomnaaGreatPh1
import Derived.Test.YtnhebmgibiomnaaGreatPh2
set_option linter.unusedVariables false
set_option linter.unusedSimpArgs false
set_option maxRecDepth 100000
set_option maxHeartbeats 8000000
namespace Go.Proofs.YtnhebmgibiomnaaGreat
section
open Go Go.RowKit
section
variable {P : Program} {ops : Array Oper} {Q : Exit → Act → World → Prop} {S : World → Prop} {T U aU : Nat → Bool}
theorem Cr {id:Nat}{a:Act}{w:World}(t u nd:List Nat)(n:Nat)(S:World→Prop) (h:Ea P ops Q S (fun i=>!t.contains i) (fun i=>u.contains i) (fun i=>nd.contains i) (List.range n) a w.drew) (hm:P.follows .mixedOrders=true:=by kernel_rfl) (hsel:Region.noSelect ops=true:=by kernel_rfl) (hlen:(List.range n).length=ops.size:=by kernel_rfl)
  (hc:Nq ops (fun i=>!t.contains i) (fun i=>u.contains i) (fun i=>nd.contains i) (List.range n) (Array.replicate ops.size false)=true:=by kernel_rfl):(Code.region id ops true).wp P Q a w:=Bq _ _ _ _ S hm hsel hlen hc h
theorem Be {i:Nat}{r:List Nat}{a:Act}{w:World}{o:Oper}{v:Value} (h:Ea P ops Q S T U aU r (a.put o.dst v) w) (hT:T i=true:=by exact rfl) (hU:U i=false:=by exact rfl) (ho:ops[i]?=some o:=by exact rfl)
  (hw:Region.wanted o (yielded ops a.tmps)=true:=by kernel_rfl) (hQ:∀c a w,Q (.panic c) (a.put o.dst v) w→Q (.panic c) a w:=by exact fun _ _ _ h=>h) (hy:∀wq,(execOp a.eval o).run P wq=.ok (.value v) wq:=by intro wq;first|(go_simp;done)|(go_simp;rfl)) :
  Ea P ops Q S T U aU (i::r) a w:=Hb hT hU ho hw hQ hy h
theorem Bj {i:Nat}{r:List Nat}{a:Act}{w:World}{o:Oper}{v:Value}(hS:S w) (h:Ea P ops Q S T U aU r (a.put o.dst v) w) (hT:T i=true:=by exact rfl) (ho:ops[i]?=some o:=by exact rfl) (hU:U i=true:=by exact rfl)
  (hw:Region.wanted o (yielded ops a.tmps)=true:=by kernel_rfl) (hQ:∀c a w,Q (.panic c) (a.put o.dst v) w→Q (.panic c) a w:=by exact fun _ _ _ h=>h)
  (hy:∀wq,S wq→(execOp a.eval o).run P wq=.ok (.value v) wq:=by intro wq hq;(try have hq1:=hq.1);(try have hq2:=hq.2.1);(try have hq3:=hq.2.2.1);(try have hq4:=hq.2.2.2.1);(try have hq5:=hq.2.2.2.2.1);(try have hq6:=hq.2.2.2.2.2.1);(try have hq7:=hq.2.2.2.2.2.2);(try have hr2:=hq.2);(try have hr3:=hq.2.2);(try have hr4:=hq.2.2.2);(try have hr5:=hq.2.2.2.2);first|(go_simp;done)|(go_simp;rfl)) :
  Ea P ops Q S T U aU (i::r) a w:=Gf hT ho hw hQ hS hU hy h
theorem Bi {i:Nat}{r:List Nat}{a:Act}{w:World}{o:Oper} (h:∀K:Act→World→Prop,(∀a' w',(aU i=true→S w')→Ea P ops Q S T U aU r a' w'→K a' w')→if Region.wanted o (yielded ops a.tmps)=true then o.wp P a w K Q else K (a.put o.dst undef) w) (hT:T i=false:=by exact rfl) (ho:ops[i]?=some o:=by exact rfl):Ea P ops Q S T U aU (i::r) a w:=Ry hT ho h
theorem Bh {A:Prop}{S:World→Prop}{X:Act→World→Prop}{a:Act}{w:World}{K:Act→World→Prop} (hK:∀a' w',(A→S w')→X a' w'→K a' w') (h:X a w) (hn:A→False:=by exact fun e=>by cases e):K a w:=hK _ _ (fun e=>(hn e).elim) h
end
theorem aliasCk {w:World}{g:Nat}{t:TypeId}{cs:Array Value}(h:aH w g t cs)(i:Nat){v:Value} (e:cs[i]?=some v):w.cell? ⟨g,i,none⟩=some v:=(h.cell i).trans e
abbrev Aj (n:Int):Value:=.int .i64 n
abbrev Ax:=@Array.getElem?_setIfInBounds_ne
abbrev Bg:=@List.getElem?_eq_getElem
abbrev Ay:=@List.getElem?_cons_zero
abbrev Az:=@List.getElem?_toArray
abbrev Bn:=@List.getD_eq_getElem?_getD
abbrev Bc:=@List.getElem?_cons_succ
abbrev aS:=@List.getElem?_eq_some_iff
abbrev Bo:=@List.length_cons
abbrev Bz:=@List.length_append
abbrev Cb:=@World.cell?_alloc_lt
abbrev Bp:=@Below.heap_setCell
abbrev Bx:=@List.mem_of_getElem?
abbrev bN:=@Array.getElem?_eq_some_iff
abbrev Bv:=@Option.some.injEq
abbrev Cc:=@List.getElem?_map
abbrev Bw:=@List.length_nil
abbrev aliasL16:=@List.length_drop
abbrev Dp:=@List.getElem?_append_right
abbrev Dw:=@Array.getElem?_setIfInBounds_self_of_lt
abbrev Eo:=@Bool.and_eq_true
abbrev Cw:=@Int.toNat_natCast
abbrev Ds:=@Int.eq_ofNat_of_zero_le
abbrev Dr:=@Array.size_setIfInBounds
abbrev Dn:=@List.length_take
abbrev Dd:=@List.length_set
abbrev Dm:=@Nat.lt_of_lt_of_le
abbrev En:=@List.getElem?_append_left
abbrev Iu:=@List.getElem?_set
abbrev Fu:=@List.length_map
theorem Aq {p:Prop}(h:p):Hid p:=Lib.hid h
theorem Aw {n:Nat}:n≤n:=Nat.le_refl n
theorem aI {n:Nat}{w:World}:Below n w w:=Below.refl n w
theorem _root_.Go.RowKit.Hid.o {p:Prop}(h:Go.RowKit.Hid p):p:=h
abbrev By:=@Nat.zero_le
abbrev Do:=@IntWalk.i64_in
abbrev Ex:=@Nat.le_trans
abbrev Ga:=@List.mem_cons
abbrev If:=@List.not_mem_nil
abbrev Je:=@List.getElem?_eq_none
abbrev Lb:=@Nat.add_assoc
abbrev ds:=@Below.refl
abbrev eq:=@List.getElem?_range
abbrev ge:=@List.range_succ
abbrev gs:=@List.nil_append
abbrev le:=@Nat.lt_or_ge
abbrev mt:=@World.cell?_setCell_other
abbrev nr:=@List.length_singleton
abbrev ns:=@Nat.zero_add
abbrev nt:=@List.map_append
abbrev nu:=@Below.setCell
abbrev nw:=@Below.drew
abbrev ny:=@Below.alloc
abbrev nz:=@List.append_assoc
abbrev oa:=@List.cons_append
abbrev od:=@Bool.false_ne_true
abbrev oe:=@List.getElem?_take
abbrev oh:=@List.take_add_one
abbrev ol:=@List.map_cons
abbrev om:=@List.set_cons_succ
abbrev oq:=@Nat.add_zero
abbrev ot:=@List.length_replicate
abbrev ou:=@Option.map_some
abbrev ov:=@List.ext_getElem?
abbrev ow:=@Option.getD_some
abbrev ox:=@Nat.mul_one
abbrev oy:=@List.take_of_length_le
abbrev oz:=@List.setIfInBounds_toArray
abbrev oB:=@Nat.mul_comm
abbrev oC:=@List.append_nil
abbrev oD:=@List.mem_cons_self
abbrev oE:=@List.mem_or_eq_of_mem_set
abbrev oG:=@Nat.eq_zero_or_pos
abbrev oH:=@List.map_nil
abbrev oI:=@List.set_append_right
abbrev oJ:=@List.mem_cons_of_mem
abbrev oK:=@Option.some.inj
abbrev oL:=@List.set_cons_zero
abbrev oM:=@List.eq_of_mem_replicate
abbrev oN:=@List.length_reverse
abbrev oO:=@List.flatten_cons
abbrev oP:=@Nat.succ_mul
abbrev oQ:=@World.block_lt_of_cell?
abbrev oR:=@World.size_drew
abbrev oS:=@List.getElem?_of_mem
abbrev oT:=@Int.emod_nonneg
abbrev oU:=@Int.emod_lt_of_pos
abbrev oV:=@Nat.min_eq_left
abbrev oW:=@Below.heap_alloc
abbrev oX:=@List.eq_nil_of_length_eq_zero
abbrev oY:=@Nat.add_sub_cancel_left
abbrev oZ:=@List.mem_singleton
abbrev o_:=@List.take_length
abbrev pa:=@List.flatMap_cons
abbrev pd:=@Nat.mul_le_mul_right
abbrev pm:=@List.map_congr_left
abbrev po:=@List.flatMap_append
abbrev pp:=@Nat.le_refl
abbrev pq:=@List.cons.injEq
abbrev pu:=@Option.bind_some
abbrev pw:=@Int.le_refl
abbrev px:=@List.map_take
abbrev py:=@Array.toList_map
abbrev pB:=@Array.toList_range
abbrev pC:=@Bool.false_eq_true
abbrev pD:=@List.drop_eq_getElem_cons
abbrev pE:=@List.take_succ_cons
abbrev pF:=@List.flatten_append
abbrev pG:=@IntWalk.wrap64_in
abbrev pH:=@List.map_set
abbrev pI:=@List.getElem?_replicate
abbrev pJ:=@Int.le_total
abbrev pK:=@Int.mul_le_mul
abbrev pL:=@World.cell?_of_block
abbrev pM:=@List.foldl_append
abbrev pN:=@List.foldl_cons
abbrev pO:=@List.toList_toArray
abbrev pP:=@Int.toNat_of_nonneg
abbrev pQ:=@List.getElem?_set_self
abbrev pR:=@List.map_map
abbrev pS:=@List.length_range
abbrev pT:=@List.size_toArray
abbrev pU:=@Array.replicate_succ
abbrev pV:=@Array.replicate_zero
abbrev pW:=@List.push_toArray
abbrev pX:=@List.append_toArray
abbrev pY:=@Below.trans
abbrev pZ:=@Nat.sub_self
abbrev p_:=@List.mem_of_mem_take
abbrev qa:=@Array.toList_setIfInBounds
abbrev qb:=@List.reverse_cons
abbrev qc:=@Array.getElem?_eq_none
abbrev qd:=@List.replicate_succ'
abbrev qf:=@List.map_replicate
abbrev qg:=@List.eq_replicate_iff
abbrev qj:=@Array.getElem?_eq_getElem
abbrev qm:=@List.getLast?_eq_getElem?
abbrev qn:=@List.getElem_mem
abbrev qo:=@Int.tmod_eq_emod_of_nonneg
abbrev qp:=@List.flatMap_def
abbrev qr:=@List.replicate_succ
abbrev qt:=@Int.mul_le_mul_of_nonneg_right
end
end Go.Proofs.YtnhebmgibiomnaaGreat

/- The reference's All: its contract. Expanded from XCrC.src by expand.py. · The reference's Order: its contract. Expanded from XCrD.src by expand.py. · The reference's Deeps: its contract. Expanded from XCrE.src by expand.py. · The reference's Deep: its contract. Expanded from XCrF.src by expand.py. · The reference's counts: its contract. Expanded from XCrG.src by expand.py. -/
import Derived.Test.YtoklllbaihccnaaCrB
import Derived.Test.YtoklllbaihccnaaCqL
import Derived.Deep.CutBlock
set_option linter.unusedVariables false
set_option linter.unusedSimpArgs false
namespace Go.Proofs.Ytoklllbaihccnaa
open Go.RowKit Go.Shelf
/-- a row of marks that below told, beside the font -/
structure RwI (w : World) (A : Option Addr) (n c ob oc : Nat) (bs : List Bool) (W : World) : Prop where
  font : Blk W w.heap.size 32 (fvC A n c).cs
  row : W.ownsRow w.heap.size 4 1 (.slice (some ⟨ob, 0, none⟩) n oc) n (bools bs)
  below : Below w.heap.size w W
theorem RwI.grow {w W W' : World} {A : Option Addr} {n c ob oc : Nat} {bs : List Bool} (h : RwI w A n c ob oc bs W) (hg : Grow W W') : RwI w A n c ob oc bs W' :=
  ⟨hg.blk h.font fun x => x, owns_grow h.row hg, h.below.trans (Grow.below hg h.below.size)⟩
theorem RwI.below' {w W W' : World} {A : Option Addr} {n c ob oc : Nat} {bs : List Bool} (h : RwI w A n c ob oc bs W) (hb : Below W.heap.size W W') : RwI w A n c ob oc bs W' := h.grow (Fr.of_below hb fun k hk _ => hk)
theorem RwI.cells {w W : World} {A : Option Addr} {n c ob oc : Nat} {bs : List Bool} (h : RwI w A n c ob oc bs W) (i : Nat) {b : Bool} (hi : bs[i]? = some b) : W.cell? ⟨ob, i, none⟩ = some (.bool b) ∧ W.frozen? ⟨ob, i, none⟩ = false ∧ ob < W.heap.size := by
  obtain ⟨_, hl, cs, hb⟩ := owns_block h.row rfl
  exact ⟨owns_cell h.row (bools_at hi), hb.frozen i, hl⟩
/-- behind an append onto a row of another type -/
theorem RwI.grown {w W W' : World} {A : Option Addr} {n c ob oc m size : Nat} {bs : List Bool} {t : TypeId} {v : Value} {xs : List Value} (h : RwI w A n c ob oc bs W) (ho : W.ownsRow w.heap.size t size v m xs) (hg : W.grownBy W' v.ownBlock) (h1 : 32 ≠ t) (h2 : 4 ≠ t) : RwI w A n c ob oc bs W' := by
  have hk := grown_others ho hg
  refine ⟨hk _ _ _ h.font h1, owns_keep h.row fun b e => ?_, h.below.grown hg h.below.size fun b e => (owns_block ho e).1⟩
  obtain ⟨_, _, cs', hb'⟩ := owns_block h.row e
  rw [show W'.heap[b]? = _ from hk b _ _ hb' h2]; exact hb'.symm
theorem ints_app1 (l : List Int) (x : Int) : ints (l ++ [x]) = ints l ++ [.int .i64 x] := by simp [ints]
namespace Rf
def upTo (gl : List Gl) (g k : Nat) : List Nat := (List.range k).filter fun a : Nat => decide ((a : Int) = (g : Int)) || (below gl g).getD a false
theorem upTo_succ (gl : List Gl) (g k : Nat) : upTo gl g (k + 1) = upTo gl g k ++ (if (decide ((k : Int) = (g : Int)) || (below gl g).getD k false) = true then [k] else []) := by
  unfold upTo
  rw [List.range_succ, List.filter_append, List.filter_cons]
  rfl
theorem below_len4 (gl : List Gl) (g : Nat) : (below gl g).length = gl.length := by unfold below start; rw [rounds_len, marks_len]; simp
def all4 (gl : List Gl) (g : Int) : List Int := if thereB gl.length g = true then (upTo gl g.toNat gl.length).map (Nat.cast : Nat → Int) else []
end Rf
set_option maxRecDepth 100000 in
set_option maxHeartbeats 4000000 in
theorem rall_any (A : Option Addr) (n c : Nat) (g : Int) (gl : List Gl) (w : World) (hn : n = gl.length) (hf : FAt w w.heap.size A gl) (h12 : n ≤ 12) (hg : I64 g) :
    Calls Try.prog 29 #[.agg (fvC A n c).cs, .int .i64 g] w fun e w' => ∃ v, e = .returned v ∧ w'.ownsRow w.heap.size 3 1 v (Rf.all4 gl g).length (ints (Rf.all4 gl g)) ∧ Below w.heap.size w w' := by
  have HF := Lib.hid hf
  have HN := Lib.hid hn
  have HGI := Lib.hid hg
  have ul : w.heap.size < w.heap.size + 1 := Nat.lt_succ_self _
  clear hf hn hg
  by_cases hg0 : 0 ≤ g
  · obtain ⟨q, rfl⟩ := Int.eq_ofNat_of_zero_le hg0
    by_cases hgn : q < n
    · have hd1 : ¬ n ≤ q := by omega
      have hd2 : decide (n ≤ q) = false := decide_eq_false hd1
      have hd3 : decide ((q : Int) < 0) = false := decide_eq_false (by omega)
      obtain ⟨i1, hi0, hi1, hi2, hi3⟩ := info_m info_int
      go_enter Try.func29, Try.ntmps29
      go_wp2_with fail
      obtain ⟨W1, hW1⟩ : ∃ W1, w.alloc (.cells (fvC A n c).cs 32) = W1 := ⟨_, rfl⟩
      have hX1 : Blk W1 w.heap.size 32 (fvC A n c).cs := by rw [← hW1]; exact Blk.new _ _ _
      have hB1 : Below w.heap.size w W1 := by rw [← hW1]; exact (Below.refl _ _).alloc (Nat.le_refl _) _
      rw [hW1]
      clear hW1
      refine (below_any A n c q gl W1 HN.out ((HF.out.below hB1 (Nat.le_refl _)).more hB1.size) h12 hgn).mono ?_
      rintro e w2 ⟨v, rfl, hrow, hb⟩
      obtain ⟨vA0, vc0, rfl, _⟩ := owns_form hrow
      obtain ⟨ob, hob⟩ : ∃ ob, vA0 = some ⟨ob, 0, none⟩ := by
        obtain ⟨a, _, hv, _⟩ := owns_at hrow (by omega)
        injection hv with hv1
        exact ⟨a, hv1⟩
      subst hob
      obtain ⟨bs, hbs⟩ : ∃ bs, Rf.below gl q = bs := ⟨_, rfl⟩
      rw [hbs] at hrow
      have HBS := Lib.hid hbs
      have HBL := Lib.hid (show bs.length = n by rw [← hbs, Rf.below_len4, HN.out])
      have HROW0 := Lib.hid (owns_mono hrow hB1.size)
      have HX2 := Lib.hid (hX1.below hb hX1.lt)
      have HB2 := Lib.hid (hB1.trans (hb.mono hB1.size))
      clear hrow hb hX1 hB1 hbs
      go_wp2_with fail
      go_loopw [6, 7] (fun v i wr => ∃ k : Nat, k ≤ n ∧ i = .int .i64 k ∧ RwI w A n c ob vc0 bs wr ∧ wr.ownsRow w.heap.size 3 1 v ((Rf.upTo gl q k).map (Nat.cast : Nat → Int)).length (ints ((Rf.upTo gl q k).map (Nat.cast : Nat → Int)))) (fun _ i _ => n - (intOf i).toNat)
      case atStart => exact ⟨0, Nat.zero_le _, rfl, ⟨HX2.out, HROW0.out, HB2.out⟩, owns_nil _ _ _ _⟩
      case round =>
        obtain ⟨k, hk, rfl, hI, hrow⟩ := hrel
        obtain ⟨xs, hxs⟩ : ∃ xs, (Rf.upTo gl q k).map (Nat.cast : Nat → Int) = xs := ⟨_, rfl⟩
        rw [hxs] at hrow
        have hxl : xs.length ≤ k := by rw [← hxs, List.length_map]; unfold Rf.upTo; have := List.length_filter_le (fun a : Nat => decide ((a : Int) = (q : Int)) || (Rf.below gl q).getD a false) (List.range k); rw [List.length_range] at this; exact this
        have hsuc := Rf.upTo_succ gl q k
        rw [HBS.out] at hsuc
        obtain ⟨vA, vc, rfl, hvc, _⟩ := owns_form hrow
        have y1 := hI.font.cell 1
        have yl := hI.font.lt
        simp only [List.getElem?_toArray, List.getElem?_cons_zero, List.getElem?_cons_succ] at y1
        have HI := Lib.hid hI
        have HROW := Lib.hid hrow
        have HXS := Lib.hid hxs
        have HSUC := Lib.hid hsuc
        clear hI hrow hxs hsuc
        by_cases hkn : k < n
        · obtain ⟨b, hb⟩ : ∃ b, bs[k]? = some b := ⟨_, List.getElem?_eq_getElem (by rw [HBL.out]; exact hkn)⟩
          obtain ⟨x0, xf, xl⟩ := HI.out.cells k hb
          have hgd : bs.getD k false = b := by rw [List.getD_eq_getElem?_getD, hb]; rfl
          have HGD := Lib.hid hgd
          have HG2 := Lib.hid ((Fr.refl (fun _ => False) wr).alloc (.cells #[.int .i64 (k : Int)] 3))
          clear hb hgd
          by_cases hkq : k = q
          · have hkq1 : ((k : Int) == (q : Int)) = true := by rw [hkq]; simp
            have HKQ := Lib.hid hkq
            clear hkq
            go_wp2_with (at_builtin; go_loud (refine wpList_append_any _ rfl (.tmp 36) (.tmp 38) _ rfl w.heap.size 3 i1 _ 1 8 Try.underlying22 hi0 hi1 hi2 hi3 rfl (by decide) (.slice vA xs.length vc) xs.length (ints xs) rfl (owns_grow HROW.out HG2.out) _ _ 1 1 [.int .i64 (k : Int)] rfl (Reads.blk (cs := [.int .i64 (k : Int)]) (Blk.new _ _ _) 1 1 rfl) (by simp [Value.oneCell']) (by unfold maxLen; omega) (by omega) (by have := HG2.out.size; have := HI.out.below.size; omega) ?_); intro v' w6 hrow hg hnew; have HRW := Lib.hid hrow; have HGG := Lib.hid hg; clear hrow hg hnew)
            go_roundw
            case rel =>
              refine ⟨k + 1, by omega, by go_num, (HI.out.grow HG2.out).grown (owns_grow HROW.out HG2.out) HGG.out (by decide) (by decide), ?_⟩
              rw [HSUC.out, if_pos (by rw [HKQ.out]; simp), List.map_append, HXS.out, List.length_append]
              show World.ownsRow _ _ _ _ _ (xs.length + 1) (ints (xs ++ [(k : Int)]))
              rw [ints_app1]
              exact HRW.out
            case measure => simp [intOf]; omega
          · have hkq1 : ((k : Int) == (q : Int)) = false := by simpa using (show ¬ (k : Int) = q by omega)
            have hkq2 : ¬ (k : Int) = (q : Int) := by omega
            cases b with
            | true =>
              go_wp2_with (at_builtin; go_loud (refine wpList_append_any _ rfl (.tmp 36) (.tmp 38) _ rfl w.heap.size 3 i1 _ 1 8 Try.underlying22 hi0 hi1 hi2 hi3 rfl (by decide) (.slice vA xs.length vc) xs.length (ints xs) rfl (owns_grow HROW.out HG2.out) _ _ 1 1 [.int .i64 (k : Int)] rfl (Reads.blk (cs := [.int .i64 (k : Int)]) (Blk.new _ _ _) 1 1 rfl) (by simp [Value.oneCell']) (by unfold maxLen; omega) (by omega) (by have := HG2.out.size; have := HI.out.below.size; omega) ?_); intro v' w6 hrow hg hnew; have HRW := Lib.hid hrow; have HGG := Lib.hid hg; clear hrow hg hnew)
              go_roundw
              case rel =>
                refine ⟨k + 1, by omega, by go_num, (HI.out.grow HG2.out).grown (owns_grow HROW.out HG2.out) HGG.out (by decide) (by decide), ?_⟩
                rw [HSUC.out, if_pos (by rw [HGD.out]; simp), List.map_append, HXS.out, List.length_append]
                show World.ownsRow _ _ _ _ _ (xs.length + 1) (ints (xs ++ [(k : Int)]))
                rw [ints_app1]
                exact HRW.out
              case measure => simp [intOf]; omega
            | false =>
              go_wp2_with fail
              go_roundw
              case rel =>
                refine ⟨k + 1, by omega, by go_num, HI.out, ?_⟩
                rw [HSUC.out, if_neg (by rw [HGD.out]; simp; omega), List.append_nil, HXS.out]
                exact HROW.out
              case measure => simp [intOf]; omega
        · obtain rfl : k = n := by omega
          go_wp2_with fail
          go_ret
          have he : Rf.all4 gl (q : Int) = xs := by
            unfold Rf.all4
            rw [if_pos (by simp [thereB]; have := HN.out; omega), Int.toNat_natCast, ← HN.out]
            exact HXS.out
          rw [he]
          exact ⟨_, rfl, HROW.out, HI.out.below⟩
    · have hd1 : n ≤ q := by omega
      have hd2 : decide (n ≤ q) = true := decide_eq_true hd1
      have he : Rf.all4 gl (q : Int) = [] := by
        unfold Rf.all4
        rw [if_neg (by simp [thereB]; have := HN.out; omega)]
      have HE := Lib.hid he
      clear he
      go_enter Try.func29, Try.ntmps29
      go_wp2_with fail
      go_ret
      rw [HE.out]
      exact ⟨_, rfl, owns_nil _ _ _ _, (Below.refl _ _).alloc (Nat.le_refl _) _⟩
  · have hd3 : decide (g < 0) = true := decide_eq_true (by omega)
    have hd4 : g < 0 := by omega
    have he : Rf.all4 gl g = [] := by
      unfold Rf.all4
      rw [if_neg (by simp [thereB]; omega)]
    have HE := Lib.hid he
    clear he
    go_enter Try.func29, Try.ntmps29
    go_wp2_with fail
    go_ret
    rw [HE.out]
    exact ⟨_, rfl, owns_nil _ _ _ _, (Below.refl _ _).alloc (Nat.le_refl _) _⟩
end Go.Proofs.Ytoklllbaihccnaa
namespace Go.Proofs.Ytoklllbaihccnaa
open Go.RowKit Go.Shelf
namespace Rf
open Ln Wk
/-- a row in which each glyph stands behind its parts, and is the least that may stand there -/
structure Gr (gl : List Gl) (out : List Int) : Prop where
  nd : out.Nodup
  inr : ∀ x ∈ out, 0 ≤ x ∧ x < gl.length
  ord : ∀ pre x post, out = pre ++ x :: post → (∀ p ∈ partsOf gl x.toNat, p.1 ∈ pre) ∧ ∀ y : Int, 0 ≤ y → y < x → y ∉ pre → ∃ p ∈ partsOf gl y.toNat, p.1 ∉ pre
theorem Gr.snoc {gl : List Gl} {out : List Int} (h : Gr gl out) {g : Nat} (hg : (g : Int) ∉ out) (hn : g < gl.length) (hp : ∀ p ∈ partsOf gl g, p.1 ∈ out) (hl : ∀ b : Nat, b < g → (b : Int) ∉ out → ∃ p ∈ partsOf gl b, p.1 ∉ out) : Gr gl (out ++ [(g : Int)]) := by
  refine ⟨?_, fun x hx => ?_, fun pre x post e => ?_⟩
  · exact List.nodup_append.2 ⟨h.nd, by simp, fun a ha b hb e => by simp only [List.mem_singleton] at hb; subst hb; subst e; exact hg ha⟩
  · rcases List.mem_append.1 hx with hx | hx
    · exact h.inr x hx
    · rw [List.mem_singleton.1 hx]; omega
  · rcases snoc_split e with ⟨rfl, rfl, rfl⟩ | ⟨post', rfl, e'⟩
    · refine ⟨fun p hpp => hp p (by rw [Int.toNat_natCast] at hpp; exact hpp), fun y hy0 hy1 hy => ?_⟩
      obtain ⟨b, rfl⟩ := Int.eq_ofNat_of_zero_le hy0
      obtain ⟨p, hpp, hpo⟩ := hl b (by omega) hy
      exact ⟨p, by rw [Int.toNat_natCast]; exact hpp, hpo⟩
    · exact h.ord pre x post' e'
theorem Gr.uniq {gl : List Gl} {l l' : List Int} (h : Gr gl l) (h' : Gr gl l') (hl : l.length = l'.length) : l = l' := by
  have key : ∀ k, k ≤ l.length → l.take k = l'.take k := by
    intro k
    induction k with
    | zero => intro _; rfl
    | succ k ih =>
      intro hk
      have hpre := ih (by omega)
      have hx : k < l.length := by omega
      have hy : k < l'.length := by omega
      have e1 : l = l.take k ++ l[k] :: l.drop (k + 1) := by rw [← List.drop_eq_getElem_cons hx, List.take_append_drop]
      have e2 : l' = l'.take k ++ l'[k] :: l'.drop (k + 1) := by rw [← List.drop_eq_getElem_cons hy, List.take_append_drop]
      obtain ⟨a1, a2⟩ := h.ord _ _ _ e1
      obtain ⟨b1, b2⟩ := h'.ord _ _ _ e2
      have hxr := h.inr _ (List.getElem_mem hx)
      have hyr := h'.inr _ (List.getElem_mem hy)
      have nx : l[k] ∉ l.take k := fun hm => by
        have := h.nd
        rw [e1, List.nodup_append] at this
        exact this.2.2 _ hm _ List.mem_cons_self rfl
      have ny : l'[k] ∉ l'.take k := fun hm => by
        have := h'.nd
        rw [e2, List.nodup_append] at this
        exact this.2.2 _ hm _ List.mem_cons_self rfl
      have exy : l[k] = l'[k] := by
        rcases Int.lt_trichotomy l[k] l'[k] with hlt | he | hgt
        · obtain ⟨p, hp, hpo⟩ := b2 l[k] hxr.1 hlt (by rw [← hpre]; exact nx)
          exact absurd (a1 p hp) (by rw [hpre]; exact hpo)
        · exact he
        · obtain ⟨p, hp, hpo⟩ := a2 l'[k] hyr.1 hgt (by rw [hpre]; exact ny)
          exact absurd (b1 p hp) (by rw [← hpre]; exact hpo)
      rw [List.take_add_one, List.take_add_one, hpre, List.getElem?_eq_getElem hx, List.getElem?_eq_getElem hy, exy]
  have := key l.length (Nat.le_refl _)
  rw [List.take_length, hl, List.take_length] at this
  exact this
def thereL (n : Nat) (L : List Int) : List Bool := (List.range n).map fun a : Nat => decide ((a : Int) ∈ L)
theorem thereL_at {n : Nat} {L : List Int} {a : Nat} (h : a < n) : (thereL n L)[a]? = some (decide ((a : Int) ∈ L)) := by unfold thereL; rw [List.getElem?_map, List.getElem?_range h]; rfl
theorem thereL_len (n : Nat) (L : List Int) : (thereL n L).length = n := by unfold thereL; simp
theorem thereL_snoc {n : Nat} {L : List Int} {g : Nat} (h : g < n) : thereL n (L ++ [(g : Int)]) = (thereL n L).set g true := by
  apply List.ext_getElem?
  intro i
  rw [List.getElem?_set]
  by_cases hi : i < n
  · rw [thereL_at hi, thereL_at hi, thereL_len]
    by_cases e : g = i
    · subst e; simp [h]
    · have e' : ¬ (i : Int) = (g : Int) := by omega
      simp [e, e']
  · rw [List.getElem?_eq_none (by rw [thereL_len]; omega), List.getElem?_eq_none (by rw [thereL_len]; omega), if_neg (by omega)]
/-- where nothing is part of itself, and not all is told, something may be told next -/
theorem next_of {gl : List Gl} {L : List Int} (h : Gr gl L) (hl : L.length < gl.length) (hn : ∀ b : Nat, b < gl.length → ¬ T (below gl b) b) : ∃ b : Nat, b < gl.length ∧ (b : Int) ∉ L ∧ ∀ p ∈ partsOf gl b, p.1 ∈ L := by
  by_cases hc : ∃ b : Nat, b < gl.length ∧ (b : Int) ∉ L ∧ ∀ p ∈ partsOf gl b, p.1 ∈ L
  · exact hc
  · exfalso
    have hex : ∃ x ∈ asI (List.range gl.length), x ∉ L := by
      by_cases hall : ∀ x ∈ asI (List.range gl.length), x ∈ L
      · have hnd : (asI (List.range gl.length)).Nodup := List.Pairwise.map _ (fun a b h e => h (by omega)) List.nodup_range
        have := List.Nodup.length_le_of_subset hnd (l₂ := L) fun x hx => hall x hx
        simp at this
        omega
      · obtain ⟨x, hx⟩ := Classical.not_forall.1 hall
        exact ⟨x, Classical.not_imp.1 hx⟩
    obtain ⟨x, hx, hxL⟩ := hex
    have hin : ∀ y, y ∈ asI (List.range gl.length) ↔ 0 ≤ y ∧ y < gl.length := fun y => by
      rw [mem_asI]
      constructor
      · rintro ⟨g, hg, rfl⟩; have := List.mem_range.1 hg; omega
      · rintro ⟨a, b⟩; exact ⟨y.toNat, List.mem_range.2 (by omega), by omega⟩
    obtain ⟨y, ⟨hy, _⟩, _, hlo⟩ := loop_of (D := fun x => x ∈ asI (List.range gl.length) ∧ x ∉ L) (asI (List.range gl.length)) (fun x hx => hx.1) (fun x hx => by
      have hr := (hin x).1 hx.1
      by_cases hc2 : ∀ p ∈ partsOf gl x.toNat, p.1 ∈ L
      · exact absurd ⟨x.toNat, by omega, by rw [show ((x.toNat : Nat) : Int) = x by omega]; exact hx.2, hc2⟩ hc
      · obtain ⟨p, hp⟩ := Classical.not_forall.1 hc2
        obtain ⟨hp1, hp2⟩ := Classical.not_imp.1 hp
        exact ⟨p, hp1, (hin _).2 (part_in hp1), hp2⟩) ⟨hx, hxL⟩
    have hr := (hin y).1 hy
    refine hn y.toNat (by omega) (loop_iff.2 ?_)
    rw [show ((y.toNat : Nat) : Int) = y by omega]
    exact hlo
end Rf
/-- what lies within Order: the font, the result's cell -/
structure OrI (w : World) (A : Option Addr) (n c : Nat) (W : World) : Prop where
  font : Blk W w.heap.size 32 (fvC A n c).cs
  res : Blk W (w.heap.size + 1) 76 #[.slice none 0 0, .int .i64 0, .int .i64 0]
  below : Below w.heap.size w W
theorem OrI.grow {w W W' : World} {A : Option Addr} {n c : Nat} (h : OrI w A n c W) (hg : Grow W W') : OrI w A n c W' :=
  ⟨hg.blk h.font fun x => x, hg.blk h.res fun x => x, h.below.trans (Grow.below hg h.below.size)⟩
theorem OrI.below' {w W W' : World} {A : Option Addr} {n c : Nat} (h : OrI w A n c W) (hb : Below W.heap.size W W') : OrI w A n c W' := h.grow (Fr.of_below hb fun k hk _ => hk)
theorem OrI.grown {w W W' : World} {A : Option Addr} {n c m size : Nat} {t : TypeId} {v : Value} {xs : List Value} (h : OrI w A n c W) (ho : W.ownsRow w.heap.size t size v m xs) (hg : W.grownBy W' v.ownBlock) (h1 : 32 ≠ t) (h2 : 76 ≠ t) : OrI w A n c W' := by
  have hk := grown_others ho hg
  exact ⟨hk _ _ _ h.font h1, hk _ _ _ h.res h2, h.below.grown hg h.below.size fun b e => (owns_block ho e).1⟩
theorem OrI.set {w W : World} {A : Option Addr} {n c m size ob oc : Nat} {t : TypeId} {xs : List Value} (h : OrI w A n c W) (ho : W.ownsRow w.heap.size t size (.slice (some ⟨ob, 0, none⟩) m oc) m xs) (h1 : 32 ≠ t) (h2 : 76 ≠ t) (i : Nat) (u : Value) : OrI w A n c (W.setCell ⟨ob, i, none⟩ u) := by
  obtain ⟨hob, _, cs, hb⟩ := owns_block ho rfl
  exact ⟨h.font.far (p := ⟨ob, i, none⟩) (h.font.ne_ hb h1) u, h.res.far (p := ⟨ob, i, none⟩) (h.res.ne_ hb h2) u, h.below.setCell (p := ⟨ob, i, none⟩) hob u⟩
theorem nodup_in4 {l : List Int} (h : l.Nodup) {n : Nat} (hi : ∀ x ∈ l, 0 ≤ x ∧ x < n) : l.length ≤ n := by
  have h1 := List.Nodup.length_le_of_subset h (l₂ := Ln.asI (List.range n)) fun x hx => by
    have := hi x hx
    exact Ln.mem_asI.2 ⟨x.toNat, List.mem_range.2 (by omega), by omega⟩
  simpa using h1
/-- a round over a glyph's parts: are all of them told? -/
def LpI (w5 : World) (m : Nat) (tv : Bool) (P : List Prt) (L : List Int) (rd i : Value) (wq : World) : Prop := wq = w5 ∧ ∃ k : Nat, k ≤ m ∧ i = .int .i64 k ∧ rd = .bool (!tv && (P.take k).all fun p => decide (p.1 ∈ L))
def sliceLen : Value → Nat
  | .slice _ l _ => l
  | _ => 0
set_option maxRecDepth 100000 in
set_option maxHeartbeats 4000000 in
theorem rorder_any (A : Option Addr) (n c : Nat) (gl : List Gl) (w : World) (hn : n = gl.length) (hf : FAt w w.heap.size A gl) (h12 : n ≤ 12) :
    Calls Try.prog 26 #[.agg (fvC A n c).cs] w fun e w' => ∃ (L : List Int) (N E : Int) (v : Value), e = .returned (.agg #[v, .int .i64 N, .int .i64 E]) ∧ w'.ownsRow w.heap.size 3 1 v L.length (ints L) ∧ Below w.heap.size w w' ∧
      ((L = [] ∧ E = 33 ∧ ∃ a : Nat, N = a ∧ a < n ∧ Rf.T (Rf.below gl a) a ∧ ∀ b : Nat, b < a → ¬ Rf.T (Rf.below gl b) b) ∨ (N = 0 ∧ E = 0 ∧ L.length = n ∧ Rf.Gr gl L ∧ ∀ b : Nat, b < n → ¬ Rf.T (Rf.below gl b) b)) := by
  have HF := Lib.hid hf
  have HN := Lib.hid hn
  have hmk := make_bools4 n (by omega)
  clear hf hn
  go_enter Try.func26, Try.ntmps26
  go_wp2_with fail
  go_loopw [3] (fun i wr => ∃ a : Nat, a ≤ n ∧ i = .int .i64 a ∧ OrI w A n c wr ∧ ∀ b : Nat, b < a → ¬ Rf.T (Rf.below gl b) b) (fun i _ => n - (intOf i).toNat)
  case atStart => exact ⟨0, Nat.zero_le _, rfl, ⟨(Blk.new _ _ _).alloc _, Blk.new_at _ _ _ (by simp), ((Below.refl _ _).alloc (Nat.le_refl _) _).alloc (by simp) _⟩, fun b hb => by omega⟩
  case round =>
    obtain ⟨a, ha, rfl, hI, hno⟩ := hrel
    have HI := Lib.hid hI
    have HNO := Lib.hid hno
    have y0 := hI.font.cell 0
    have y1 := hI.font.cell 1
    have y2 := hI.font.cell 2
    have y3 := hI.font.cell 3
    have y4 := hI.font.cell 4
    have y5 := hI.font.cell 5
    have y6 := hI.font.cell 6
    have y7 := hI.font.cell 7
    have y8 := hI.font.cell 8
    have yl := hI.font.lt
    simp only [List.getElem?_toArray, List.getElem?_cons_zero, List.getElem?_cons_succ] at y0 y1 y2 y3 y4 y5 y6 y7 y8
    clear hI hno
    by_cases han : a < n
    · go_wp2_with fail
      refine (below_any A n c a gl wr HN.out ((HF.out.below HI.out.below (Nat.le_refl _)).more HI.out.below.size) h12 han).mono ?_
      rintro e w2 ⟨v, rfl, hrow, hb⟩
      obtain ⟨bs, hbs⟩ : ∃ bs, Rf.below gl a = bs := ⟨_, rfl⟩
      have hbl : bs.length = n := by rw [← hbs, Rf.below_len4, HN.out]
      rw [hbs] at hrow
      obtain ⟨ob, oc, rfl, _, _, hol, hcell⟩ := owns_at hrow (by omega)
      obtain ⟨bv, hbv⟩ : ∃ bv, bs[a]? = some bv := ⟨_, List.getElem?_eq_getElem (by omega)⟩
      have z0 := hcell _ _ (bools_at hbv)
      have hgd : bs.getD a false = bv := by rw [List.getD_eq_getElem?_getD, hbv]; rfl
      have HT := Lib.hid (show Rf.T (Rf.below gl a) a ↔ bv = true by unfold Rf.T; rw [hbs, hgd])
      have HI2 := Lib.hid (HI.out.below' hb)
      have r0 := HI2.out.res.cell 0
      have r1 := HI2.out.res.cell 1
      have r2 := HI2.out.res.cell 2
      have f0 := HI2.out.res.frozen 0
      have f1 := HI2.out.res.frozen 1
      have f2 := HI2.out.res.frozen 2
      have rl := HI2.out.res.lt
      simp only [List.getElem?_toArray, List.getElem?_cons_zero, List.getElem?_cons_succ] at r0 r1 r2
      clear hrow hb hbs hbl hbv hgd hcell y0 y1 y2 y3 y4 y5 y6 y7 y8 yl
      cases bv with
      | true =>
        go_wp2_with fail
        have hb7 := ((HI2.out.res.set_ 0 (.slice none 0 0)).set_ 1 (.int .i64 (a : Int))).set_ 2 (.int .i64 33)
        have k0 := hb7.cell 0
        have k1 := hb7.cell 1
        have k2 := hb7.cell 2
        simp at k0 k1 k2
        have hBf : Below w.heap.size w (((w2.setCell ⟨w.heap.size + 1, 0, none⟩ (.slice none 0 0)).setCell ⟨w.heap.size + 1, 1, none⟩ (.int .i64 (a : Int))).setCell ⟨w.heap.size + 1, 2, none⟩ (.int .i64 33)) := ((HI2.out.below.setCell (p := ⟨w.heap.size + 1, 0, none⟩) (Nat.le_succ _) _).setCell (p := ⟨w.heap.size + 1, 1, none⟩) (Nat.le_succ _) _).setCell (p := ⟨w.heap.size + 1, 2, none⟩) (Nat.le_succ _) _
        exact bodyPost_ret (v := .agg #[.slice none 0 0, .int .i64 (a : Int), .int .i64 33]) (by simp [results, Try.results26, go_sem, k0, k1, k2]) rfl ⟨[], (a : Int), 33, _, rfl, owns_nil _ _ _ _, hBf, .inl ⟨rfl, rfl, a, rfl, han, by first | exact HT.out.2 rfl | exact HT.out.2 trivial, HNO.out⟩⟩
      | false =>
        go_wp2_with fail
        go_roundw
        case rel =>
          refine ⟨a + 1, by omega, by go_num, HI2.out, fun b hb => ?_⟩
          by_cases e : b = a
          · subst e; exact fun h => by have := HT.out.1 h; cases this
          · exact HNO.out b (by omega)
        case measure => simp [intOf]; omega
    · obtain rfl : a = n := by omega
      obtain ⟨i1, hi0, hi1, hi2, hi3⟩ := info_m info_int
      go_wp2_with fail
      clear y0 y1 y2 y3 y4 y5 y6 y7 y8 yl
      have hst : OrI w A a c (wr.alloc (.cells (bools (List.replicate a false)).toArray 4)) ∧ (wr.alloc (.cells (bools (List.replicate a false)).toArray 4)).ownsRow w.heap.size 4 1 (.slice (some ⟨wr.heap.size, 0, none⟩) a a) a (bools (Rf.thereL a [])) := by
        refine ⟨HI.out.grow ((Fr.refl _ _).alloc _), ?_⟩
        have e : Rf.thereL a [] = List.replicate a false := by unfold Rf.thereL; rw [List.eq_replicate_iff]; exact ⟨by simp, by simp⟩
        rw [e]
        exact owns_fresh (by simp [bools]) HI.out.below.size (by unfold maxLen; omega)
      obtain ⟨ob, hob⟩ : ∃ ob, wr.heap.size = ob := ⟨_, rfl⟩
      rw [hob] at hst
      conv => arg 4; rw [hob]
      generalize wr.alloc (.cells (bools (List.replicate a false)).toArray 4) = W2 at hst ⊢
      have HST := Lib.hid hst
      clear hst hob
      go_loopw [5] (fun v wq => ∃ L : List Int, wq.ownsRow w.heap.size 3 1 v L.length (ints L) ∧ Rf.Gr gl L ∧ OrI w A a c wq ∧ wq.ownsRow w.heap.size 4 1 (.slice (some ⟨ob, 0, none⟩) a a) a (bools (Rf.thereL a L))) (fun v _ => a - sliceLen v)
      case atStart => exact ⟨[], owns_nil _ _ _ _, ⟨List.nodup_nil, by simp, fun pre x post e => by simp at e⟩, HST.out.1, HST.out.2⟩
      case round =>
        obtain ⟨L, hrow, hgr, hI, hth⟩ := hrel
        obtain ⟨vA, vc, rfl, hvc, _⟩ := owns_form hrow
        obtain ⟨ln, hln⟩ : ∃ ln, ln = L.length := ⟨_, rfl⟩
        rw [← hln] at hrow hvc ⊢
        have hln12 : ln ≤ a := by
          have := nodup_in4 hgr.nd hgr.inr
          have := HN.out
          omega
        have y1 := hI.font.cell 1
        have yl := hI.font.lt
        simp only [List.getElem?_toArray, List.getElem?_cons_zero, List.getElem?_cons_succ] at y1
        have HROW := Lib.hid hrow
        have HGR := Lib.hid hgr
        have HI := Lib.hid hI
        have HTH := Lib.hid hth
        have HLN := Lib.hid hln
        clear hrow hgr hI hth hln
        by_cases hla : ln < a
        · go_wp2_with fail
          clear y1 yl
          go_loopw [5, 6] (fun v i wq => v = .slice vA ln vc ∧ ∃ b : Nat, b ≤ a ∧ i = .int .i64 b ∧ wq.ownsRow w.heap.size 3 1 (.slice vA ln vc) ln (ints L) ∧ OrI w A a c wq ∧ wq.ownsRow w.heap.size 4 1 (.slice (some ⟨ob, 0, none⟩) a a) a (bools (Rf.thereL a L)) ∧ ∀ x : Nat, x < b → (x : Int) ∉ L → ∃ p ∈ partsOf gl x, p.1 ∉ L) (fun _ i _ => a - (intOf i).toNat)
          case atStart => exact ⟨rfl, 0, Nat.zero_le _, rfl, HROW.out, HI.out, HTH.out, fun x hx => by omega⟩
          case round =>
            obtain ⟨rfl, b, hb, rfl, hrow3, hI3, hth3, hno3⟩ := hrel
            have HROW3 := Lib.hid hrow3
            have HI3 := Lib.hid hI3
            have HTH3 := Lib.hid hth3
            have HNO3 := Lib.hid hno3
            have y0 := hI3.font.cell 0
            have y1 := hI3.font.cell 1
            have y2 := hI3.font.cell 2
            have y3 := hI3.font.cell 3
            have y4 := hI3.font.cell 4
            have y5 := hI3.font.cell 5
            have y6 := hI3.font.cell 6
            have y7 := hI3.font.cell 7
            have y8 := hI3.font.cell 8
            have yl := hI3.font.lt
            simp only [List.getElem?_toArray, List.getElem?_cons_zero, List.getElem?_cons_succ] at y0 y1 y2 y3 y4 y5 y6 y7 y8
            clear hrow3 hI3 hth3 hno3
            by_cases hba : b < a
            · go_wp2_with fail
              refine (rparts_any A a c b gl wr HN.out ((HF.out.below HI3.out.below (Nat.le_refl _)).more HI3.out.below.size) h12 hba).mono ?_
              rintro e w5 ⟨pv, rfl, hrp, hb5⟩
              have hg5 : Grow wr w5 := Fr.of_below hb5 fun k hk _ => hk
              obtain ⟨P, hP⟩ : ∃ P, partsOf gl b = P := ⟨_, rfl⟩
              rw [hP] at hrp
              obtain ⟨m, hm⟩ : ∃ m, m = P.length := ⟨_, rfl⟩
              rw [← hm] at hrp
              obtain ⟨qA, qc, rfl, hqc, _⟩ := owns_form hrp
              have hm1000 : m ≤ 1000 := by rw [hm, ← hP]; exact parts_few HF.out b
              have HI5 := Lib.hid (HI3.out.grow hg5)
              have HTH5 := Lib.hid (owns_grow HTH3.out hg5)
              have HROW5 := Lib.hid (owns_grow HROW3.out hg5)
              have HRP := Lib.hid (owns_mono hrp HI3.out.below.size)
              have HP := Lib.hid hP
              have HM := Lib.hid hm
              have z0 := owns_cell HTH5.out (bools_at (Rf.thereL_at (L := L) hba))
              have zl : ob < w5.heap.size := (owns_block HTH5.out rfl).2.1
              obtain ⟨tv, htv⟩ : ∃ tv, decide ((b : Int) ∈ L) = tv := ⟨_, rfl⟩
              rw [htv] at z0
              have HTV := Lib.hid htv
              clear hrp hb5 hg5 hP hm htv y0 y1 y2 y3 y4 y5 y6 y7 y8 yl
              go_wp2_with fail
              go_loopw [8, 9] (fun rd i wq => LpI w5 m tv P L rd i wq) (fun _ i _ => m - (intOf i).toNat)
              case atStart => exact ⟨rfl, 0, Nat.zero_le _, rfl, by simp⟩
              case round =>
                obtain ⟨rfl, k, hk, rfl, hrd⟩ := hrel
                by_cases hkm : k < m
                · obtain ⟨⟨pg, px, py⟩, hpk⟩ : ∃ p, P[k]? = some p := ⟨_, List.getElem?_eq_getElem (by have := HM.out; omega)⟩
                  obtain ⟨c1, _, _⟩ := prts_at hpk
                  have hpin := Rf.part_in (gl := gl) (g := b) (show (pg, px, py) ∈ partsOf gl b by rw [HP.out]; exact List.mem_of_getElem? hpk)
                  simp only at hpin
                  obtain ⟨q, rfl⟩ := Int.eq_ofNat_of_zero_le hpin.1
                  have hqa : q < a := by have := HN.out; omega
                  obtain ⟨vb, vcc, hv, _, _, hvl, hcell⟩ := owns_at HRP.out (by omega)
                  injection hv with hv1 hv2 hv3
                  subst hv1
                  clear hv2 hv3
                  have p0 := hcell _ _ c1
                  have x0 := owns_cell HTH5.out (bools_at (Rf.thereL_at (L := L) hqa))
                  obtain ⟨dv, hdv⟩ : ∃ dv, decide ((q : Int) ∈ L) = dv := ⟨_, rfl⟩
                  rw [hdv] at x0
                  have htk : ((P.take (k + 1)).all fun p => decide (p.1 ∈ L)) = (((P.take k).all fun p => decide (p.1 ∈ L)) && dv) := by
                    rw [List.take_add_one, hpk, List.all_append]
                    simp [hdv]
                  obtain ⟨av, hav⟩ : ∃ av, ((P.take k).all fun p => decide (p.1 ∈ L)) = av := ⟨_, rfl⟩
                  rw [hav] at htk hrd
                  subst hrd
                  have HTK := Lib.hid htk
                  clear hpk c1 hpin hcell hdv htk hav
                  cases tv <;> cases av <;> cases dv <;>
                  · go_wp2_with fail
                    go_roundw
                    case rel => exact ⟨rfl, k + 1, by omega, by go_num, by rw [HTK.out]; rfl⟩
                    case measure => simp [intOf]; omega
                · obtain rfl : k = m := by omega
                  have hall : (P.take k).all (fun p => decide (p.1 ∈ L)) = P.all fun p => decide (p.1 ∈ L) := by rw [HM.out, List.take_length]
                  rw [hall] at hrd
                  obtain ⟨rv, hrv⟩ : ∃ rv, (!tv && P.all fun p => decide (p.1 ∈ L)) = rv := ⟨_, rfl⟩
                  rw [hrv] at hrd
                  subst hrd
                  have HRV := Lib.hid hrv
                  clear hall hrv
                  cases rv with
                  | true =>
                    have hbL : (b : Int) ∉ L := fun hm => by
                      have h1 := HTV.out
                      rw [decide_eq_true hm] at h1
                      have h2 := HRV.out
                      rw [← h1] at h2
                      cases h2
                    have hPL : ∀ p ∈ partsOf gl b, p.1 ∈ L := fun p hp => by
                      have h1 := HTV.out
                      rw [decide_eq_false hbL] at h1
                      have h2 := HRV.out
                      rw [← h1] at h2
                      simp only [Bool.not_false, Bool.true_and] at h2
                      rw [List.all_eq_true] at h2
                      have h3 := h2 p (by rw [← HP.out]; exact hp)
                      simpa using h3
                    have HGR2 := Lib.hid (HGR.out.snoc hbL (by have := HN.out; omega) hPL (fun x hx => HNO3.out x hx))
                    obtain ⟨_, _, tcs, htb⟩ := owns_block HTH5.out rfl
                    have zf := htb.frozen b
                    have HI6 := Lib.hid ((HI5.out.set HTH5.out (by decide) (by decide) b (.bool true)).grow ((Fr.refl _ _).alloc (.cells #[.int .i64 (b : Int)] 3)))
                    have HTH6 := Lib.hid (owns_grow (by have h := owns_setRow HTH5.out b (.bool true); rw [← bools_set, ← Rf.thereL_snoc hba] at h; exact h) ((Fr.refl _ _).alloc (.cells #[.int .i64 (b : Int)] 3)))
                    have HROW6 := Lib.hid (owns_grow (owns_set HROW5.out htb (by decide) b (.bool true)) ((Fr.refl _ _).alloc (.cells #[.int .i64 (b : Int)] 3)))
                    clear hbL hPL htb
                    go_wp2_with (at_builtin; go_loud (refine wpList_append_any _ rfl (.tmp 71) (.tmp 73) _ rfl w.heap.size 3 i1 _ 1 8 Try.underlying22 hi0 hi1 hi2 hi3 rfl (by decide) (.slice vA ln vc) ln (ints L) rfl HROW6.out _ _ 1 1 [.int .i64 (b : Int)] rfl (Reads.blk (cs := [.int .i64 (b : Int)]) (Blk.new_at _ _ _ (by simp)) 1 1 rfl) (by simp [Value.oneCell']) (by unfold maxLen; omega) (by omega) HI6.out.below.size ?_); intro v' w6 hrow hg hnew; have HRW := Lib.hid hrow; have HGG := Lib.hid hg; obtain ⟨Av, cv, hve, _⟩ := owns_form hrow; subst hve; clear hrow hg hnew)
                    refine ⟨⟨L ++ [(b : Int)], ?_, HGR2.out, HI6.out.grown HROW6.out HGG.out (by decide) (by decide), ?_⟩, by simp only [sliceLen]; omega⟩
                    · rw [List.length_append, List.length_singleton, ints_app1, ← HLN.out]
                      exact HRW.out
                    · have hk := grown_others HROW6.out HGG.out
                      refine owns_keep HTH6.out fun g e => ?_
                      obtain ⟨_, _, cs', hb'⟩ := owns_block HTH6.out e
                      rw [show w6.heap[g]? = _ from hk g _ _ hb' (by decide)]; exact hb'.symm
                  | false =>
                    go_wp2_with fail
                    go_roundw
                    case rel =>
                      refine ⟨by first | rfl | trivial, b + 1, by omega, by go_num, HROW5.out, HI5.out, HTH5.out, fun x hx hxL => ?_⟩
                      by_cases e : x = b
                      · subst e
                        have h1 := HTV.out
                        rw [decide_eq_false hxL] at h1
                        have h2 := HRV.out
                        rw [← h1] at h2
                        simp only [Bool.not_false, Bool.true_and] at h2
                        rw [List.all_eq_false] at h2
                        obtain ⟨p, hp, hpl⟩ := h2
                        exact ⟨p, by rw [HP.out]; exact hp, by simpa using hpl⟩
                      · exact HNO3.out x (by omega) hxL
                    case measure => simp [intOf]; omega
            · exfalso
              obtain rfl : b = a := by omega
              obtain ⟨x, h1, h2, h3⟩ := Rf.next_of HGR.out (by have := HLN.out; have := HN.out; omega) (by rw [← HN.out]; exact HNO.out)
              obtain ⟨p, hp, hpl⟩ := HNO3.out x (by have := HN.out; omega) h2
              exact hpl (h3 p hp)
        · obtain rfl : ln = a := by omega
          have r0 := HI.out.res.cell 0
          have r1 := HI.out.res.cell 1
          have r2 := HI.out.res.cell 2
          have f0 := HI.out.res.frozen 0
          have f1 := HI.out.res.frozen 1
          have f2 := HI.out.res.frozen 2
          have rl := HI.out.res.lt
          simp only [List.getElem?_toArray, List.getElem?_cons_zero, List.getElem?_cons_succ] at r0 r1 r2
          go_wp2_with fail
          have hb7 := ((HI.out.res.set_ 0 (.slice vA ln vc)).set_ 1 (.int .i64 0)).set_ 2 (.int .i64 0)
          have k0 := hb7.cell 0
          have k1 := hb7.cell 1
          have k2 := hb7.cell 2
          simp at k0 k1 k2
          have hBf : Below w.heap.size w (((wr.setCell ⟨w.heap.size + 1, 0, none⟩ (.slice vA ln vc)).setCell ⟨w.heap.size + 1, 1, none⟩ (.int .i64 0)).setCell ⟨w.heap.size + 1, 2, none⟩ (.int .i64 0)) := ((HI.out.below.setCell (p := ⟨w.heap.size + 1, 0, none⟩) (Nat.le_succ _) _).setCell (p := ⟨w.heap.size + 1, 1, none⟩) (Nat.le_succ _) _).setCell (p := ⟨w.heap.size + 1, 2, none⟩) (Nat.le_succ _) _
          have hres := HI.out.res
          have hrw := owns_set (owns_set (owns_set HROW.out hres (by decide) 0 (.slice vA ln vc)) (hres.set_ 0 _) (by decide) 1 (.int .i64 0)) ((hres.set_ 0 _).set_ 1 _) (by decide) 2 (.int .i64 0)
          exact bodyPost_ret (v := .agg #[.slice vA ln vc, .int .i64 0, .int .i64 0]) (by simp [results, Try.results26, go_sem, k0, k1, k2]) rfl ⟨L, 0, 0, _, rfl, by rw [← HLN.out]; exact hrw, hBf, .inr ⟨rfl, rfl, HLN.out.symm, HGR.out, HNO.out⟩⟩
end Go.Proofs.Ytoklllbaihccnaa
namespace Go.Proofs.Ytoklllbaihccnaa
open Go.RowKit Go.Shelf
namespace Rf
def bump (g : Nat) (o : List Int) (p : Prt) : List Int := o.set g (min 5 (max (o.getD g 0) (o.getD p.1.toNat 0 + 1)))
def dvisit (gl : List Gl) (o : List Int) (g : Nat) : List Int := (partsOf gl g).foldl (bump g) o
def dround (gl : List Gl) (o : List Int) : List Int := (List.range gl.length).foldl (dvisit gl) o
def drounds (gl : List Gl) (k : Nat) (o : List Int) : List Int := (List.range k).foldl (fun o _ => dround gl o) o
def deeps (gl : List Gl) : List Int := drounds gl 6 (List.replicate gl.length 0)
/-- so many, each between 0 and 5 -/
def DB (n : Nat) (o : List Int) : Prop := o.length = n ∧ ∀ i, 0 ≤ o.getD i 0 ∧ o.getD i 0 ≤ 5
theorem bump_at {g : Nat} {o : List Int} {p : Prt} (hg : g < o.length) (i : Nat) : (bump g o p).getD i 0 = if i = g then min 5 (max (o.getD g 0) (o.getD p.1.toNat 0 + 1)) else o.getD i 0 := by
  unfold bump
  rw [List.getD_eq_getElem?_getD, List.getElem?_set]
  by_cases e : g = i
  · subst e; rw [if_pos rfl, if_pos hg, if_pos rfl]; rfl
  · rw [if_neg e, if_neg (fun h => e h.symm), ← List.getD_eq_getElem?_getD]
theorem DB.bump {n g : Nat} {o : List Int} (h : DB n o) (hg : g < n) (p : Prt) : DB n (Rf.bump g o p) := by
  refine ⟨by unfold Rf.bump; rw [List.length_set]; exact h.1, fun i => ?_⟩
  rw [bump_at (by rw [h.1]; exact hg)]
  have h1 := h.2 g
  have h2 := h.2 p.1.toNat
  have h3 := h.2 i
  split <;> omega
theorem DB.bumps {n g : Nat} (hg : g < n) : ∀ (l : List Prt) {o : List Int}, DB n o → DB n (l.foldl (Rf.bump g) o)
  | [], _, h => h
  | p :: l, _, h => DB.bumps hg l (h.bump hg p)
theorem DB.visits {gl : List Gl} : ∀ (l : List Nat) {o : List Int}, (∀ g ∈ l, g < gl.length) → DB gl.length o → DB gl.length (l.foldl (dvisit gl) o)
  | [], _, _, h => h
  | g :: l, _, hl, h => DB.visits l (fun x hx => hl x (List.mem_cons_of_mem _ hx)) (DB.bumps (hl g List.mem_cons_self) _ h)
theorem drounds_succ (gl : List Gl) (k : Nat) (o : List Int) : drounds gl (k + 1) o = dround gl (drounds gl k o) := by unfold drounds; rw [List.range_succ, List.foldl_append]; rfl
theorem DB.rounds {gl : List Gl} {o : List Int} (h : DB gl.length o) : ∀ k, DB gl.length (drounds gl k o)
  | 0 => h
  | k + 1 => by rw [drounds_succ]; exact DB.visits _ (fun g hg => List.mem_range.1 hg) (DB.rounds h k)
theorem DB.zero (n : Nat) : DB n (List.replicate n 0) := ⟨by simp, fun i => by
  rw [List.getD_eq_getElem?_getD, List.getElem?_replicate]
  split <;> simp⟩
end Rf
/-- a row of ints that is being made, beside the font -/
structure IwI (w : World) (A : Option Addr) (n c ob : Nat) (xs : List Int) (W : World) : Prop where
  font : Blk W w.heap.size 32 (fvC A n c).cs
  row : W.ownsRow w.heap.size 3 1 (.slice (some ⟨ob, 0, none⟩) n n) n (ints xs)
  below : Below w.heap.size w W
theorem IwI.grow {w W W' : World} {A : Option Addr} {n c ob : Nat} {xs : List Int} (h : IwI w A n c ob xs W) (hg : Grow W W') : IwI w A n c ob xs W' :=
  ⟨hg.blk h.font fun x => x, owns_grow h.row hg, h.below.trans (Grow.below hg h.below.size)⟩
theorem IwI.below' {w W W' : World} {A : Option Addr} {n c ob : Nat} {xs : List Int} (h : IwI w A n c ob xs W) (hb : Below W.heap.size W W') : IwI w A n c ob xs W' := h.grow (Fr.of_below hb fun k hk _ => hk)
theorem IwI.set {w W : World} {A : Option Addr} {n c ob : Nat} {xs : List Int} (h : IwI w A n c ob xs W) (i : Nat) (x : Int) : IwI w A n c ob (xs.set i x) (W.setCell ⟨ob, i, none⟩ (.int .i64 x)) := by
  obtain ⟨hob, _, cs, hb⟩ := owns_block h.row rfl
  refine ⟨h.font.far (p := ⟨ob, i, none⟩) (h.font.ne_ hb (by decide)) _, ?_, h.below.setCell (p := ⟨ob, i, none⟩) hob _⟩
  rw [ints_set]
  exact owns_setRow h.row i (.int .i64 x)
theorem IwI.drew {w W : World} {A : Option Addr} {n c ob : Nat} {xs : List Int} (h : IwI w A n c ob xs W) : IwI w A n c ob xs W.drew := ⟨h.font.drew, owns_keep h.row fun _ _ => rfl, h.below.drew⟩
theorem IwI.cells {w W : World} {A : Option Addr} {n c ob : Nat} {xs : List Int} (h : IwI w A n c ob xs W) (i : Nat) (hi : i < xs.length) : W.cell? ⟨ob, i, none⟩ = some (.int .i64 (xs.getD i 0)) ∧ W.frozen? ⟨ob, i, none⟩ = false ∧ ob < W.heap.size := by
  obtain ⟨_, hl, cs, hb⟩ := owns_block h.row rfl
  exact ⟨owns_cell h.row (ints_at _ _ _ (by rw [List.getD_eq_getElem?_getD, List.getElem?_eq_getElem hi]; rfl)), hb.frozen i, hl⟩
theorem IwI.keep {w W : World} {ob i n : Nat} {base : Nat} {v u : Value} {xs : List Value} {A : Option Addr} {m c : Nat} {ys : List Int} (k : IwI w A m c ob ys W) (h : W.ownsRow base 48 3 v n xs) : (W.setCell ⟨ob, i, none⟩ u).ownsRow base 48 3 v n xs := by
  obtain ⟨_, _, cs, hb⟩ := owns_block k.row rfl
  exact owns_set h hb (by decide) i u
set_option maxRecDepth 100000 in
set_option maxHeartbeats 4000000 in
theorem deeps_any (A : Option Addr) (n c : Nat) (gl : List Gl) (w : World) (hn : n = gl.length) (hf : FAt w w.heap.size A gl) (h12 : n ≤ 12) :
    Calls Try.prog 49 #[.agg (fvC A n c).cs] w fun e w' => ∃ ob, e = .returned (.slice (some ⟨ob, 0, none⟩) n n) ∧ w'.ownsRow w.heap.size 3 1 (.slice (some ⟨ob, 0, none⟩) n n) n (ints (Rf.deeps gl)) ∧ Below w.heap.size w w' := by
  have HF := Lib.hid hf
  have HN := Lib.hid hn
  have hmk := make_ints n (by omega)
  clear hf hn
  go_enter Try.func49, Try.ntmps49
  go_wp2_with fail
  obtain ⟨W1, hW1⟩ : ∃ W1, (w.alloc (.cells (fvC A n c).cs 32)).alloc (.cells (ints (List.replicate n 0)).toArray 3) = W1 := ⟨_, rfl⟩
  have hI1 : IwI w A n c (w.heap.size + 1) (List.replicate n 0) W1 := by
    rw [← hW1]
    refine ⟨(Blk.new _ _ _).alloc _, ?_, ((Below.refl _ _).alloc (Nat.le_refl _) _).alloc (by simp) _⟩
    have := owns_fresh (W := w.alloc (.cells (fvC A n c).cs 32)) (B := w.heap.size) (size := 1) (n := n) (t := 3) (xs := ints (List.replicate n 0)) (by simp [ints]) (by simp) (by unfold maxLen; omega)
    simpa using this
  rw [hW1]
  have HI1 := Lib.hid hI1
  clear hW1 hI1
  go_loopw [4] (fun i wr => ∃ r : Nat, r ≤ 6 ∧ i = .int .i64 r ∧ IwI w A n c (w.heap.size + 1) (Rf.drounds gl r (List.replicate n 0)) wr) (fun i _ => 6 - (intOf i).toNat)
  case atStart => exact ⟨0, by omega, rfl, HI1.out⟩
  case round =>
    obtain ⟨r, hr, rfl, hI⟩ := hrel
    have HI2 := Lib.hid hI
    have y1 := hI.font.cell 1
    have yl := hI.font.lt
    simp only [List.getElem?_toArray, List.getElem?_cons_zero, List.getElem?_cons_succ] at y1
    clear hI
    by_cases hr6 : r < 6
    · have hr7 : decide ((r : Int) < 6) = true := decide_eq_true (by omega)
      have hr8 : (r : Int) < 6 := by omega
      have hr9 : decide (r < 6) = true := decide_eq_true (by omega)
      go_wp2_with fail
      try simp only [hr7, hr9]
      clear hr7 hr8 hr9
      clear y1 yl
      go_loopw [5] (fun i wr => ∃ a : Nat, a ≤ n ∧ i = .int .i64 a ∧ IwI w A n c (w.heap.size + 1) ((List.range a).foldl (Rf.dvisit gl) (Rf.drounds gl r (List.replicate n 0))) wr) (fun i _ => n - (intOf i).toNat)
      case atStart => exact ⟨0, Nat.zero_le _, rfl, HI2.out⟩
      case round =>
        obtain ⟨a, ha, rfl, hI⟩ := hrel
        obtain ⟨o, ho⟩ : ∃ o, (List.range a).foldl (Rf.dvisit gl) (Rf.drounds gl r (List.replicate n 0)) = o := ⟨_, rfl⟩
        rw [ho] at hI
        have hdb : Rf.DB n o := by
          rw [← ho, HN.out]
          exact Rf.DB.visits _ (fun g hg => by have := List.mem_range.1 hg; have := HN.out; omega) ((Rf.DB.zero _).rounds r)
        have hsuc : (List.range (a + 1)).foldl (Rf.dvisit gl) (Rf.drounds gl r (List.replicate n 0)) = Rf.dvisit gl o a := by rw [List.range_succ, List.foldl_append, ho]; rfl
        have HSUC := Lib.hid hsuc
        have HO := Lib.hid ho
        have HDB := Lib.hid hdb
        have HI3 := Lib.hid hI
        have y0 := hI.font.cell 0
        have y1 := hI.font.cell 1
        have y2 := hI.font.cell 2
        have y3 := hI.font.cell 3
        have y4 := hI.font.cell 4
        have y5 := hI.font.cell 5
        have y6 := hI.font.cell 6
        have y7 := hI.font.cell 7
        have y8 := hI.font.cell 8
        have yl := hI.font.lt
        simp only [List.getElem?_toArray, List.getElem?_cons_zero, List.getElem?_cons_succ] at y0 y1 y2 y3 y4 y5 y6 y7 y8
        clear hI ho hdb hsuc
        by_cases han : a < n
        · go_wp2_with fail
          refine (rparts_any A n c a gl wr HN.out ((HF.out.below HI3.out.below (Nat.le_refl _)).more HI3.out.below.size) h12 han).mono ?_
          rintro e w5 ⟨pv, rfl, hrp, hb5⟩
          obtain ⟨P, hP⟩ : ∃ P, partsOf gl a = P := ⟨_, rfl⟩
          rw [hP] at hrp
          obtain ⟨m, hm⟩ : ∃ m, m = P.length := ⟨_, rfl⟩
          rw [← hm] at hrp
          obtain ⟨qA, qc, rfl, hqc, _⟩ := owns_form hrp
          have hm1000 : m ≤ 1000 := by rw [hm, ← hP]; exact parts_few HF.out a
          have HI5 := Lib.hid (HI3.out.below' hb5)
          have HRP := Lib.hid (owns_mono hrp HI3.out.below.size)
          have HP := Lib.hid hP
          have HM := Lib.hid hm
          clear hrp hb5 hP hm y0 y1 y2 y3 y4 y5 y6 y7 y8 yl
          go_wp2_with fail
          go_loopw [7] (fun i wr => ∃ k : Nat, k ≤ m ∧ i = .int .i64 k ∧ IwI w A n c (w.heap.size + 1) ((P.take k).foldl (Rf.bump a) o) wr ∧ wr.ownsRow w.heap.size 48 3 (.slice qA m qc) m (prts P)) (fun i _ => m - (intOf i).toNat)
          case atStart => exact ⟨0, Nat.zero_le _, rfl, HI5.out, HRP.out⟩
          case round =>
            obtain ⟨k, hk, rfl, hI, hro⟩ := hrel
            by_cases hkm : k < m
            · obtain ⟨⟨pg, px, py⟩, hpk⟩ : ∃ p, P[k]? = some p := ⟨_, List.getElem?_eq_getElem (by have := HM.out; omega)⟩
              obtain ⟨c1, _, _⟩ := prts_at hpk
              have hpin := (mem_psOf (show (pg, px, py) ∈ psOf gl.length _ from by have h := List.mem_of_getElem? hpk; rw [← HP.out] at h; exact h)).2
              simp only at hpin
              obtain ⟨q, rfl⟩ := Int.eq_ofNat_of_zero_le hpin.1
              have hqn : q < n := by have := HN.out; omega
              obtain ⟨o2, ho2⟩ : ∃ o2, (P.take k).foldl (Rf.bump a) o = o2 := ⟨_, rfl⟩
              have htk : (P.take (k + 1)).foldl (Rf.bump a) o = Rf.bump a o2 ((q : Int), px, py) := by rw [List.take_add_one, hpk, List.foldl_append, ho2]; rfl
              rw [ho2] at hI
              have hdb2 : Rf.DB n o2 := by rw [← ho2]; exact Rf.DB.bumps han _ HDB.out
              obtain ⟨vb, vcc, hv, _, _, hvl, hcell⟩ := owns_at hro (by omega)
              injection hv with hv1 hv2 hv3
              subst hv1
              clear hv2 hv3
              have p0 := hcell _ _ c1
              obtain ⟨e0, f0, el⟩ := hI.cells a (by rw [hdb2.1]; exact han)
              obtain ⟨d0, _, _⟩ := hI.cells q (by rw [hdb2.1]; exact hqn)
              have hx := hdb2.2 a
              have hy := hdb2.2 q
              have hval : Rf.bump a o2 ((q : Int), px, py) = o2.set a (min 5 (max (o2.getD a 0) (o2.getD q 0 + 1))) := by unfold Rf.bump; rw [Int.toNat_natCast]
              obtain ⟨x, hxe⟩ : ∃ x, o2.getD a 0 = x := ⟨_, rfl⟩
              obtain ⟨y, hye⟩ : ∃ y, o2.getD q 0 = y := ⟨_, rfl⟩
              rw [hxe] at e0 hx hval
              rw [hye] at d0 hy hval
              have HVAL := Lib.hid (htk.trans hval)
              have HI6 := Lib.hid hI
              have HRO := Lib.hid hro
              clear hpk c1 hpin hcell htk hval hI hro hdb2 hxe hye ho2
              go_wp2_with fail
              have hS : wr.drew.cell? ⟨w.heap.size + 1, a, none⟩ = some (.int .i64 x) ∧ wr.drew.cell? ⟨vb, k * 3, none⟩ = some (.int .i64 (q : Int)) ∧ wr.drew.cell? ⟨w.heap.size + 1, q, none⟩ = some (.int .i64 y) := ⟨e0, p0, d0⟩
              refine wp_region_seqT (fun i => !([18] : List Nat).contains i) (fun i => ([5, 11, 13] : List Nat).contains i) (fun i => ([] : List Nat).contains i) [0, 1, 2, 3, 4, 5, 6, 7, 8, 9, 10, 11, 12, 13, 14, 15, 16, 17, 18] (fun wq : World => wq.cell? ⟨w.heap.size + 1, a, none⟩ = some (.int .i64 x) ∧ wq.cell? ⟨vb, k * 3, none⟩ = some (.int .i64 (q : Int)) ∧ wq.cell? ⟨w.heap.size + 1, q, none⟩ = some (.int .i64 y)) (by kernel_rfl) (by kernel_rfl) (by kernel_rfl) (by kernel_rfl) ?_
              iterate 18 (first | refine wpSeq_pureA (v := _) rfl rfl rfl ?_ | refine wpSeq_loadA (v := _) rfl rfl hS rfl ?_)
              refine wpSeq_heavy rfl rfl (fun K hK => ?_); go_simp
              refine hK _ _ (fun h => by cases h) ?_; clear hK K
              refine wpSeq_end ?_
              go_wp2_with fail
              go_roundw
              case rel => exact ⟨k + 1, by omega, by go_num, by rw [HVAL.out]; exact (HI6.out.set a _).drew, owns_keep (HI6.out.keep HRO.out) fun _ _ => rfl⟩
              case measure => simp [intOf]; omega
            · obtain rfl : k = m := by omega
              have HI6 := Lib.hid hI
              clear hI hro
              go_wp2_with fail
              go_roundw
              case rel =>
                refine ⟨a + 1, by omega, by go_num, ?_⟩
                rw [HSUC.out]
                unfold Rf.dvisit
                rw [HP.out]
                have h := HI6.out
                rw [HM.out, List.take_length] at h
                exact h
              case measure => simp [intOf]; omega
        · obtain rfl : a = n := by omega
          go_wp2_with fail
          go_roundw
          case rel =>
            refine ⟨r + 1, by omega, by go_num, ?_⟩
            rw [Rf.drounds_succ]
            unfold Rf.dround
            rw [← HN.out, HO.out]
            exact HI3.out
          case measure => simp [intOf]; omega
    · obtain rfl : r = 6 := by omega
      go_wp2_with fail
      go_ret
      refine ⟨_, rfl, ?_, HI2.out.below⟩
      unfold Rf.deeps
      rw [← HN.out]
      exact HI2.out.row
end Go.Proofs.Ytoklllbaihccnaa
namespace Go.Proofs.Ytoklllbaihccnaa
open Go.RowKit Go.Shelf
namespace Rf
def bad (gl : List Gl) (g a : Nat) : Bool := (decide (a = g) || (below gl g).getD a false) && (below gl a).getD a false
def deepR (gl : List Gl) (g : Int) : Int × Int :=
  if thereB gl.length g = true then
    if (List.range gl.length).any (bad gl g.toNat) = true then (0, 33)
    else if 4 < (deeps gl).getD g.toNat 0 then (0, 34) else ((deeps gl).getD g.toNat 0, 0)
  else (0, 32)
end Rf
set_option maxRecDepth 100000 in
set_option maxHeartbeats 4000000 in
theorem rdeep_any (A : Option Addr) (n c : Nat) (g : Int) (gl : List Gl) (w : World) (hn : n = gl.length) (hf : FAt w w.heap.size A gl) (h12 : n ≤ 12) (hg : I64 g) :
    Calls Try.prog 27 #[.agg (fvC A n c).cs, .int .i64 g] w fun e w' => e = .returned (.agg #[.slice none 0 0, .int .i64 (Rf.deepR gl g).1, .int .i64 (Rf.deepR gl g).2]) ∧ Below w.heap.size w w' := by
  have HF := Lib.hid hf
  have HN := Lib.hid hn
  have HGI := Lib.hid hg
  clear hf hn hg
  have hOR : OrI w A n c ((w.alloc (.cells (fvC A n c).cs 32)).alloc (.cells #[.slice none 0 0, .int .i64 0, .int .i64 0] 76)) := ⟨(Blk.new _ _ _).alloc _, Blk.new_at _ _ _ (by simp), ((Below.refl _ _).alloc (Nat.le_refl _) _).alloc (by simp) _⟩
  have HOR := Lib.hid hOR
  clear hOR
  by_cases hg0 : 0 ≤ g
  · obtain ⟨q, rfl⟩ := Int.eq_ofNat_of_zero_le hg0
    by_cases hgn : q < n
    · have hd1 : ¬ n ≤ q := by omega
      have hd2 : decide (n ≤ q) = false := decide_eq_false hd1
      have hd3 : decide ((q : Int) < 0) = false := decide_eq_false (by omega)
      have ht : thereB gl.length (q : Int) = true := by simp [thereB]; have := HN.out; omega
      have HT := Lib.hid ht
      clear ht
      have he0 := HOR.out.font.cell 1
      simp only [List.getElem?_toArray, List.getElem?_cons_zero, List.getElem?_cons_succ] at he0
      go_enter Try.func27, Try.ntmps27
      go_upto_region 3 with fail
      obtain ⟨W1, hW1⟩ : ∃ W1, (w.alloc (.cells (fvC A n c).cs 32)).alloc (.cells #[.slice none 0 0, .int .i64 0, .int .i64 0] 76) = W1 := ⟨_, rfl⟩
      have hor := HOR.out
      rw [hW1] at hor
      have HO := Lib.hid hor
      rw [hW1]
      have y0 := hor.font.cell 0
      have y1 := hor.font.cell 1
      have y2 := hor.font.cell 2
      have y3 := hor.font.cell 3
      have y4 := hor.font.cell 4
      have y5 := hor.font.cell 5
      have y6 := hor.font.cell 6
      have y7 := hor.font.cell 7
      have y8 := hor.font.cell 8
      have yl := hor.font.lt
      simp only [List.getElem?_toArray, List.getElem?_cons_zero, List.getElem?_cons_succ] at y0 y1 y2 y3 y4 y5 y6 y7 y8
      clear hW1 hor he0 HOR
      go_wp2_with fail
      refine (below_any A n c q gl W1 HN.out ((HF.out.below HO.out.below (Nat.le_refl _)).more HO.out.below.size) h12 hgn).mono ?_
      rintro e w2 ⟨v, rfl, hrow, hb⟩
      obtain ⟨bs, hbs⟩ : ∃ bs, Rf.below gl q = bs := ⟨_, rfl⟩
      have hbl : bs.length = n := by rw [← hbs, Rf.below_len4, HN.out]
      rw [hbs] at hrow
      obtain ⟨ob, oc, rfl, _⟩ := owns_at hrow (by omega)
      have HROW := Lib.hid (owns_mono hrow HO.out.below.size)
      have HO2 := Lib.hid (HO.out.below' hb)
      have HBS := Lib.hid hbs
      have HBL := Lib.hid hbl
      clear hrow hb hbs hbl y0 y1 y2 y3 y4 y5 y6 y7 y8 yl
      go_wp2_with fail
      go_loopw [6] (fun i wr => ∃ a : Nat, a ≤ n ∧ i = .int .i64 a ∧ OrI w A n c wr ∧ wr.ownsRow w.heap.size 4 1 (.slice (some ⟨ob, 0, none⟩) n oc) n (bools bs) ∧ ∀ b : Nat, b < a → Rf.bad gl q b = false) (fun i _ => n - (intOf i).toNat)
      case atStart => exact ⟨0, Nat.zero_le _, rfl, HO2.out, HROW.out, fun b hb => by omega⟩
      case round =>
        obtain ⟨a, ha, rfl, hI, hro, hno⟩ := hrel
        have HI := Lib.hid hI
        have HRO := Lib.hid hro
        have HNO := Lib.hid hno
        have y0 := hI.font.cell 0
        have y1 := hI.font.cell 1
        have y2 := hI.font.cell 2
        have y3 := hI.font.cell 3
        have y4 := hI.font.cell 4
        have y5 := hI.font.cell 5
        have y6 := hI.font.cell 6
        have y7 := hI.font.cell 7
        have y8 := hI.font.cell 8
        have yl := hI.font.lt
        simp only [List.getElem?_toArray, List.getElem?_cons_zero, List.getElem?_cons_succ] at y0 y1 y2 y3 y4 y5 y6 y7 y8
        clear hI hro hno
        by_cases han : a < n
        · obtain ⟨bv, hbv⟩ : ∃ bv, bs[a]? = some bv := ⟨_, List.getElem?_eq_getElem (by rw [HBL.out]; exact han)⟩
          have z0 := owns_cell HRO.out (bools_at hbv)
          have zl := (owns_block HRO.out rfl).2.1
          have hgd : (Rf.below gl q).getD a false = bv := by rw [HBS.out, List.getD_eq_getElem?_getD, hbv]; rfl
          simp only at zl
          have HGD := Lib.hid hgd
          clear hbv hgd
          obtain ⟨ev, hev⟩ : ∃ ev, decide (a = q) = ev := ⟨_, rfl⟩
          have hne : ev = false → ¬ (a : Int) = q := fun h e => by rw [h] at hev; have := of_decide_eq_false hev; omega
          have heq : ev = true → a = q := fun h => by rw [h] at hev; exact of_decide_eq_true hev
          have HEV := Lib.hid hev
          clear hev
          cases ev with
          | true =>
            have hek : ((a : Int) == (q : Int)) = true := by rw [heq rfl]; simp
            have hek2 : decide ((a : Int) = (q : Int)) = true := by rw [heq rfl]; simp
            clear hne heq
            go_wp2_with fail
            refine (below_any A n c a gl wr HN.out ((HF.out.below (HI.out.below) (Nat.le_refl _)).more HI.out.below.size) h12 han).mono ?_
            rintro e w5 ⟨v5, rfl, hrow5, hb5⟩
            obtain ⟨bs5, hbs5⟩ : ∃ bs5, Rf.below gl a = bs5 := ⟨_, rfl⟩
            have hbl5 : bs5.length = n := by rw [← hbs5, Rf.below_len4, HN.out]
            rw [hbs5] at hrow5
            obtain ⟨ob5, oc5, rfl, _, _, ol5, hcell5⟩ := owns_at hrow5 (by omega)
            obtain ⟨cv, hcv⟩ : ∃ cv, bs5[a]? = some cv := ⟨_, List.getElem?_eq_getElem (by omega)⟩
            have x0 := hcell5 _ _ (bools_at hcv)
            have hgd5 : (Rf.below gl a).getD a false = cv := by rw [hbs5, List.getD_eq_getElem?_getD, hcv]; rfl
            have HI5 := Lib.hid (HI.out.below' hb5)
            have HRO5 := Lib.hid (owns_grow HRO.out (Fr.of_below hb5 fun k hk _ => hk))
            have HBAD := Lib.hid (show Rf.bad gl q a = cv by unfold Rf.bad; rw [HGD.out, HEV.out, hgd5]; simp)
            have r0 := HI5.out.res.cell 0
            have r1 := HI5.out.res.cell 1
            have r2 := HI5.out.res.cell 2
            have f0 := HI5.out.res.frozen 0
            have f1 := HI5.out.res.frozen 1
            have f2 := HI5.out.res.frozen 2
            have rl := HI5.out.res.lt
            simp only [List.getElem?_toArray, List.getElem?_cons_zero, List.getElem?_cons_succ] at r0 r1 r2
            clear hrow5 hb5 hbs5 hbl5 hcell5 hcv hgd5 y0 y1 y2 y3 y4 y5 y6 y7 y8 yl z0 zl
            cases cv with
            | true =>
              have he : Rf.deepR gl (q : Int) = (0, 33) := by
                unfold Rf.deepR
                rw [if_pos HT.out, Int.toNat_natCast, if_pos (List.any_eq_true.2 ⟨a, List.mem_range.2 (by have := HN.out; omega), HBAD.out⟩)]
              have HE := Lib.hid he
              clear he
              go_wp2_with fail
              have hb7 := (((HI5.out).res.set_ 0 (.slice none 0 0)).set_ 1 (.int .i64 (0))).set_ 2 (.int .i64 (33))
              have k0 := hb7.cell 0
              have k1 := hb7.cell 1
              have k2 := hb7.cell 2
              simp at k0 k1 k2
              have hBf : Below w.heap.size w (((w5.setCell ⟨w.heap.size + 1, 0, none⟩ (.slice none 0 0)).setCell ⟨w.heap.size + 1, 1, none⟩ (.int .i64 (0))).setCell ⟨w.heap.size + 1, 2, none⟩ (.int .i64 (33))) := (((HI5.out).below.setCell (p := ⟨w.heap.size + 1, 0, none⟩) (Nat.le_succ _) _).setCell (p := ⟨w.heap.size + 1, 1, none⟩) (Nat.le_succ _) _).setCell (p := ⟨w.heap.size + 1, 2, none⟩) (Nat.le_succ _) _
              exact bodyPost_ret (v := .agg #[.slice none 0 0, .int .i64 (0), .int .i64 (33)]) (by simp [results, Try.results27, go_sem, k0, k1, k2]) rfl ⟨by rw [HE.out], hBf⟩
            | false =>
              go_wp2_with fail
              go_roundw
              case rel =>
                refine ⟨a + 1, by omega, by go_num, HI5.out, HRO5.out, fun b hb => ?_⟩
                by_cases e : b = a
                · subst e; exact HBAD.out
                · exact HNO.out b (by omega)
              case measure => simp [intOf]; omega
          | false =>
            have hek0 := hne rfl
            have hek : ((a : Int) == (q : Int)) = false := by simp [hek0]
            have hek2 : decide ((a : Int) = (q : Int)) = false := decide_eq_false hek0
            clear hne heq
            cases bv with
            | true =>
              go_wp2_with fail
              refine (below_any A n c a gl wr HN.out ((HF.out.below (HI.out.below) (Nat.le_refl _)).more HI.out.below.size) h12 han).mono ?_
              rintro e w5 ⟨v5, rfl, hrow5, hb5⟩
              obtain ⟨bs5, hbs5⟩ : ∃ bs5, Rf.below gl a = bs5 := ⟨_, rfl⟩
              have hbl5 : bs5.length = n := by rw [← hbs5, Rf.below_len4, HN.out]
              rw [hbs5] at hrow5
              obtain ⟨ob5, oc5, rfl, _, _, ol5, hcell5⟩ := owns_at hrow5 (by omega)
              obtain ⟨cv, hcv⟩ : ∃ cv, bs5[a]? = some cv := ⟨_, List.getElem?_eq_getElem (by omega)⟩
              have x0 := hcell5 _ _ (bools_at hcv)
              have hgd5 : (Rf.below gl a).getD a false = cv := by rw [hbs5, List.getD_eq_getElem?_getD, hcv]; rfl
              have HI5 := Lib.hid (HI.out.below' hb5)
              have HRO5 := Lib.hid (owns_grow HRO.out (Fr.of_below hb5 fun k hk _ => hk))
              have HBAD := Lib.hid (show Rf.bad gl q a = cv by unfold Rf.bad; rw [HGD.out, HEV.out, hgd5]; simp)
              have r0 := HI5.out.res.cell 0
              have r1 := HI5.out.res.cell 1
              have r2 := HI5.out.res.cell 2
              have f0 := HI5.out.res.frozen 0
              have f1 := HI5.out.res.frozen 1
              have f2 := HI5.out.res.frozen 2
              have rl := HI5.out.res.lt
              simp only [List.getElem?_toArray, List.getElem?_cons_zero, List.getElem?_cons_succ] at r0 r1 r2
              clear hrow5 hb5 hbs5 hbl5 hcell5 hcv hgd5 y0 y1 y2 y3 y4 y5 y6 y7 y8 yl z0 zl
              cases cv with
              | true =>
                have he : Rf.deepR gl (q : Int) = (0, 33) := by
                  unfold Rf.deepR
                  rw [if_pos HT.out, Int.toNat_natCast, if_pos (List.any_eq_true.2 ⟨a, List.mem_range.2 (by have := HN.out; omega), HBAD.out⟩)]
                have HE := Lib.hid he
                clear he
                go_wp2_with fail
                have hb7 := (((HI5.out).res.set_ 0 (.slice none 0 0)).set_ 1 (.int .i64 (0))).set_ 2 (.int .i64 (33))
                have k0 := hb7.cell 0
                have k1 := hb7.cell 1
                have k2 := hb7.cell 2
                simp at k0 k1 k2
                have hBf : Below w.heap.size w (((w5.setCell ⟨w.heap.size + 1, 0, none⟩ (.slice none 0 0)).setCell ⟨w.heap.size + 1, 1, none⟩ (.int .i64 (0))).setCell ⟨w.heap.size + 1, 2, none⟩ (.int .i64 (33))) := (((HI5.out).below.setCell (p := ⟨w.heap.size + 1, 0, none⟩) (Nat.le_succ _) _).setCell (p := ⟨w.heap.size + 1, 1, none⟩) (Nat.le_succ _) _).setCell (p := ⟨w.heap.size + 1, 2, none⟩) (Nat.le_succ _) _
                exact bodyPost_ret (v := .agg #[.slice none 0 0, .int .i64 (0), .int .i64 (33)]) (by simp [results, Try.results27, go_sem, k0, k1, k2]) rfl ⟨by rw [HE.out], hBf⟩
              | false =>
                go_wp2_with fail
                go_roundw
                case rel =>
                  refine ⟨a + 1, by omega, by go_num, HI5.out, HRO5.out, fun b hb => ?_⟩
                  by_cases e : b = a
                  · subst e; exact HBAD.out
                  · exact HNO.out b (by omega)
                case measure => simp [intOf]; omega
            | false =>
              go_wp2_with fail
              go_roundw
              case rel =>
                refine ⟨a + 1, by omega, by go_num, HI.out, HRO.out, fun b hb => ?_⟩
                by_cases e : b = a
                · subst e
                  unfold Rf.bad
                  rw [HGD.out, HEV.out]
                  rfl
                · exact HNO.out b (by omega)
              case measure => simp [intOf]; omega
        · obtain rfl : a = n := by omega
          go_wp2_with fail
          refine (deeps_any A a c gl wr HN.out ((HF.out.below HI.out.below (Nat.le_refl _)).more HI.out.below.size) h12).mono ?_
          rintro e w5 ⟨o5, rfl, hrow5, hb5⟩
          have hdl : Rf.DB a (Rf.deeps gl) := by rw [HN.out]; exact (Rf.DB.zero _).rounds 6
          have x0 := owns_cell hrow5 (ints_at _ q ((Rf.deeps gl).getD q 0) (by rw [List.getD_eq_getElem?_getD, List.getElem?_eq_getElem (by rw [hdl.1]; exact hgn)]; rfl))
          obtain ⟨dv, hdv⟩ : ∃ dv, (Rf.deeps gl).getD q 0 = dv := ⟨_, rfl⟩
          rw [hdv] at x0
          have HI5 := Lib.hid (HI.out.below' hb5)
          have he : Rf.deepR gl (q : Int) = if 4 < dv then (0, 34) else (dv, 0) := by
            unfold Rf.deepR
            rw [if_pos HT.out, Int.toNat_natCast, if_neg (fun h => by
              obtain ⟨b, hb, hbb⟩ := List.any_eq_true.1 h
              have := HNO.out b (by have := List.mem_range.1 hb; have := HN.out; omega)
              rw [this] at hbb; cases hbb), hdv]
          have r0 := HI5.out.res.cell 0
          have r1 := HI5.out.res.cell 1
          have r2 := HI5.out.res.cell 2
          have f0 := HI5.out.res.frozen 0
          have f1 := HI5.out.res.frozen 1
          have f2 := HI5.out.res.frozen 2
          have rl := HI5.out.res.lt
          simp only [List.getElem?_toArray, List.getElem?_cons_zero, List.getElem?_cons_succ] at r0 r1 r2
          clear hrow5 hb5 hdl hdv y0 y1 y2 y3 y4 y5 y6 y7 y8 yl
          by_cases h4 : 4 < dv
          · rw [if_pos h4] at he
            have HE := Lib.hid he
            clear he
            go_wp2_with fail
            have hb7 := (((HI5.out).res.set_ 0 (.slice none 0 0)).set_ 1 (.int .i64 (0))).set_ 2 (.int .i64 (34))
            have k0 := hb7.cell 0
            have k1 := hb7.cell 1
            have k2 := hb7.cell 2
            simp at k0 k1 k2
            have hBf : Below w.heap.size w (((w5.setCell ⟨w.heap.size + 1, 0, none⟩ (.slice none 0 0)).setCell ⟨w.heap.size + 1, 1, none⟩ (.int .i64 (0))).setCell ⟨w.heap.size + 1, 2, none⟩ (.int .i64 (34))) := (((HI5.out).below.setCell (p := ⟨w.heap.size + 1, 0, none⟩) (Nat.le_succ _) _).setCell (p := ⟨w.heap.size + 1, 1, none⟩) (Nat.le_succ _) _).setCell (p := ⟨w.heap.size + 1, 2, none⟩) (Nat.le_succ _) _
            exact bodyPost_ret (v := .agg #[.slice none 0 0, .int .i64 (0), .int .i64 (34)]) (by simp [results, Try.results27, go_sem, k0, k1, k2]) rfl ⟨by rw [HE.out], hBf⟩
          · rw [if_neg h4] at he
            have HE := Lib.hid he
            clear he
            go_wp2_with fail
            have hb7 := (((HI5.out).res.set_ 0 (.slice none 0 0)).set_ 1 (.int .i64 (dv))).set_ 2 (.int .i64 (0))
            have k0 := hb7.cell 0
            have k1 := hb7.cell 1
            have k2 := hb7.cell 2
            simp at k0 k1 k2
            have hBf : Below w.heap.size w (((w5.setCell ⟨w.heap.size + 1, 0, none⟩ (.slice none 0 0)).setCell ⟨w.heap.size + 1, 1, none⟩ (.int .i64 (dv))).setCell ⟨w.heap.size + 1, 2, none⟩ (.int .i64 (0))) := (((HI5.out).below.setCell (p := ⟨w.heap.size + 1, 0, none⟩) (Nat.le_succ _) _).setCell (p := ⟨w.heap.size + 1, 1, none⟩) (Nat.le_succ _) _).setCell (p := ⟨w.heap.size + 1, 2, none⟩) (Nat.le_succ _) _
            exact bodyPost_ret (v := .agg #[.slice none 0 0, .int .i64 (dv), .int .i64 (0)]) (by simp [results, Try.results27, go_sem, k0, k1, k2]) rfl ⟨by rw [HE.out], hBf⟩
    · have hd1 : n ≤ q := by omega
      have hd2 : decide (n ≤ q) = true := decide_eq_true hd1
      have he : Rf.deepR gl (q : Int) = (0, 32) := by
        unfold Rf.deepR
        rw [if_neg (by simp [thereB]; have := HN.out; omega)]
      have HE := Lib.hid he
      clear he
      go_enter Try.func27, Try.ntmps27
      go_wp2_with fail
      have hb7 : Blk ((w.alloc (.cells (fvC A n c).cs 32)).alloc (.cells #[.slice none 0 0, .int .i64 0, .int .i64 32] 76)) (w.heap.size + 1) 76 #[.slice none 0 0, .int .i64 0, .int .i64 32] := Blk.new_at _ _ _ (by simp)
      have k0 := hb7.cell 0
      have k1 := hb7.cell 1
      have k2 := hb7.cell 2
      simp only [List.getElem?_toArray, List.getElem?_cons_zero, List.getElem?_cons_succ] at k0 k1 k2
      exact bodyPost_ret (v := .agg #[.slice none 0 0, .int .i64 0, .int .i64 32]) (by simp [results, Try.results27, go_sem, k0, k1, k2]) rfl ⟨by rw [HE.out], ((Below.refl _ _).alloc (Nat.le_refl _) _).alloc (by simp) _⟩
  · have hd3 : decide (g < 0) = true := decide_eq_true (by omega)
    have hd4 : g < 0 := by omega
    have he : Rf.deepR gl g = (0, 32) := by
      unfold Rf.deepR
      rw [if_neg (by simp [thereB]; omega)]
    have HE := Lib.hid he
    clear he
    go_enter Try.func27, Try.ntmps27
    go_wp2_with fail
    have hb7 : Blk ((w.alloc (.cells (fvC A n c).cs 32)).alloc (.cells #[.slice none 0 0, .int .i64 0, .int .i64 32] 76)) (w.heap.size + 1) 76 #[.slice none 0 0, .int .i64 0, .int .i64 32] := Blk.new_at _ _ _ (by simp)
    have k0 := hb7.cell 0
    have k1 := hb7.cell 1
    have k2 := hb7.cell 2
    simp only [List.getElem?_toArray, List.getElem?_cons_zero, List.getElem?_cons_succ] at k0 k1 k2
    exact bodyPost_ret (v := .agg #[.slice none 0 0, .int .i64 0, .int .i64 32]) (by simp [results, Try.results27, go_sem, k0, k1, k2]) rfl ⟨by rw [HE.out], ((Below.refl _ _).alloc (Nat.le_refl _) _).alloc (by simp) _⟩
end Go.Proofs.Ytoklllbaihccnaa
namespace Go.Proofs.Ytoklllbaihccnaa
open Go.RowKit Go.Shelf
namespace Rf
def ownN (gl : List Gl) (g : Nat) : Int := ((gl[g]?.map fun x => (x.pts.length : Int)).getD 0)
def addc (g : Nat) (o : List Int) (p : Prt) : List Int := if o.getD g 0 ≤ 1000 then o.set g (o.getD g 0 + o.getD p.1.toNat 0) else o
def ctop (g : Nat) (o : List Int) : List Int := o.set g (min (o.getD g 0) 1001)
def cvisit (gl : List Gl) (dp : List Int) (d : Nat) (o : List Int) (g : Nat) : List Int :=
  if dp.getD g 0 = (d : Int) then ctop g ((partsOf gl g).foldl (addc g) (o.set g (ownN gl g))) else o
def cround (gl : List Gl) (dp : List Int) (o : List Int) (d : Nat) : List Int := (List.range gl.length).foldl (cvisit gl dp d) o
def crounds (gl : List Gl) (k : Nat) : List Int := (List.range k).foldl (cround gl (deeps gl)) (List.replicate gl.length 0)
def counts (gl : List Gl) : List Int := crounds gl 5
theorem crounds_succ (gl : List Gl) (k : Nat) : crounds gl (k + 1) = cround gl (deeps gl) (crounds gl k) k := by unfold crounds; rw [List.range_succ, List.foldl_append]; rfl
theorem set_at (o : List Int) {g : Nat} (hg : g < o.length) (x : Int) (i : Nat) : (o.set g x).getD i 0 = if i = g then x else o.getD i 0 := by
  rw [List.getD_eq_getElem?_getD, List.getElem?_set]
  by_cases e : g = i
  · subst e; rw [if_pos rfl, if_pos hg, if_pos rfl]; rfl
  · rw [if_neg e, if_neg (fun h => e h.symm), ← List.getD_eq_getElem?_getD]
/-- so many, each between 0 and 1001, but one that is being reckoned -/
def CW (n g : Nat) (o : List Int) : Prop := o.length = n ∧ ∀ i, 0 ≤ o.getD i 0 ∧ o.getD i 0 ≤ (if i = g then 1002001 else 1001)
def CB (n : Nat) (o : List Int) : Prop := o.length = n ∧ ∀ i, 0 ≤ o.getD i 0 ∧ o.getD i 0 ≤ 1001
theorem CB.start {n g : Nat} {o : List Int} (h : CB n o) (hg : g < n) {x : Int} (hx : 0 ≤ x ∧ x ≤ 1000000) : CW n g (o.set g x) := by
  refine ⟨by rw [List.length_set]; exact h.1, fun i => ?_⟩
  rw [set_at _ (by rw [h.1]; exact hg)]
  have := h.2 i
  by_cases e : i = g
  · rw [if_pos e, if_pos e]; omega
  · rw [if_neg e, if_neg e]; exact this
theorem CW.add {n g : Nat} {o : List Int} (h : CW n g o) (hg : g < n) (p : Prt) : CW n g (addc g o p) := by
  unfold addc
  split
  · rename_i hle
    refine ⟨by rw [List.length_set]; exact h.1, fun i => ?_⟩
    rw [set_at _ (by rw [h.1]; exact hg)]
    have h1 := h.2 i
    have h2 := h.2 g
    have h3 := h.2 p.1.toNat
    by_cases e : i = g
    · rw [if_pos e, if_pos e]
      by_cases e2 : p.1.toNat = g
      · rw [e2]; omega
      · rw [if_neg e2] at h3; omega
    · rw [if_neg e]; exact h1
  · exact h
theorem CW.adds {n g : Nat} (hg : g < n) : ∀ (l : List Prt) {o : List Int}, CW n g o → CW n g (l.foldl (addc g) o)
  | [], _, h => h
  | p :: l, _, h => CW.adds hg l (h.add hg p)
theorem CW.top {n g : Nat} {o : List Int} (h : CW n g o) (hg : g < n) : CB n (ctop g o) := by
  unfold ctop
  refine ⟨by rw [List.length_set]; exact h.1, fun i => ?_⟩
  rw [set_at _ (by rw [h.1]; exact hg)]
  have h1 := h.2 i
  have h2 := h.2 g
  by_cases e : i = g
  · rw [if_pos e]; omega
  · rw [if_neg e] at h1 ⊢; exact h1
theorem adds_stop {g : Nat} : ∀ (l : List Prt) {o : List Int}, ¬ o.getD g 0 ≤ 1000 → l.foldl (addc g) o = o
  | [], _, _ => rfl
  | p :: l, o, h => by
    rw [List.foldl_cons]
    have e : addc g o p = o := by unfold addc; rw [if_neg h]
    rw [e]
    exact adds_stop l h
theorem CB.visit {gl : List Gl} {n : Nat} (hn : n = gl.length) {dp : List Int} {d g : Nat} {o : List Int} (h : CB n o) (hg : g < n) (ho : 0 ≤ ownN gl g ∧ ownN gl g ≤ 1000000) : CB n (cvisit gl dp d o g) := by
  unfold cvisit
  split
  · exact (CW.adds hg _ (h.start hg ho)).top hg
  · exact h
theorem CB.visits {gl : List Gl} {n : Nat} (hn : n = gl.length) {dp : List Int} {d : Nat} (ho : ∀ g, 0 ≤ ownN gl g ∧ ownN gl g ≤ 1000000) : ∀ (l : List Nat) {o : List Int}, (∀ g ∈ l, g < n) → CB n o → CB n (l.foldl (cvisit gl dp d) o)
  | [], _, _, h => h
  | g :: l, _, hl, h => CB.visits hn ho l (fun x hx => hl x (List.mem_cons_of_mem _ hx)) (h.visit hn (hl g List.mem_cons_self) (ho g))
theorem CB.zero (n : Nat) : CB n (List.replicate n 0) := ⟨by simp, fun i => by
  rw [List.getD_eq_getElem?_getD, List.getElem?_replicate]
  split <;> simp⟩
theorem CB.rounds {gl : List Gl} {n : Nat} (hn : n = gl.length) (ho : ∀ g, 0 ≤ ownN gl g ∧ ownN gl g ≤ 1000000) : ∀ k, CB n (crounds gl k)
  | 0 => by unfold crounds; rw [hn]; exact CB.zero _
  | k + 1 => by rw [crounds_succ]; exact CB.visits hn ho _ (fun g hg => by have := List.mem_range.1 hg; omega) (CB.rounds hn ho k)
end Rf
theorem own_few {w : World} {B : Nat} {A : Option Addr} {gl : List Gl} (hf : FAt w B A gl) (g : Nat) : 0 ≤ Rf.ownN gl g ∧ Rf.ownN gl g ≤ 1000000 := by
  unfold Rf.ownN
  cases hg : gl[g]? with
  | none => simp
  | some x =>
    obtain ⟨_, _, _, _, _, _, _, _, _, _, _, _, _, _, ⟨h, _⟩, _⟩ := hf.outline hg
    simp only [Option.map_some, Option.getD_some]
    omega
/-- behind the deeps, a second row is made -/
structure CtI (w : World) (A : Option Addr) (n c db : Nat) (dp : List Int) (ob : Nat) (xs : List Int) (W : World) : Prop where
  one : IwI w A n c ob xs W
  dp : W.ownsRow w.heap.size 3 1 (.slice (some ⟨db, 0, none⟩) n n) n (ints dp)
  ne : db ≠ ob
theorem CtI.grow {w W W' : World} {A : Option Addr} {n c db ob : Nat} {dp xs : List Int} (h : CtI w A n c db dp ob xs W) (hg : Grow W W') : CtI w A n c db dp ob xs W' := ⟨h.one.grow hg, owns_grow h.dp hg, h.ne⟩
theorem CtI.below' {w W W' : World} {A : Option Addr} {n c db ob : Nat} {dp xs : List Int} (h : CtI w A n c db dp ob xs W) (hb : Below W.heap.size W W') : CtI w A n c db dp ob xs W' := h.grow (Fr.of_below hb fun k hk _ => hk)
theorem CtI.set {w W : World} {A : Option Addr} {n c db ob : Nat} {dp xs : List Int} (h : CtI w A n c db dp ob xs W) (i : Nat) (x : Int) : CtI w A n c db dp ob (xs.set i x) (W.setCell ⟨ob, i, none⟩ (.int .i64 x)) :=
  ⟨h.one.set i x, owns_keep h.dp fun g e => by
    have e2 : some db = some g := e
    injection e2 with e2
    subst e2
    exact Below.heap_setCell _ _ _ _ h.ne, h.ne⟩
theorem CtI.drew {w W : World} {A : Option Addr} {n c db ob : Nat} {dp xs : List Int} (h : CtI w A n c db dp ob xs W) : CtI w A n c db dp ob xs W.drew := ⟨h.one.drew, owns_keep h.dp fun _ _ => rfl, h.ne⟩
set_option maxRecDepth 100000 in
set_option maxHeartbeats 4000000 in
theorem counts_any (A : Option Addr) (n c : Nat) (gl : List Gl) (w : World) (hn : n = gl.length) (hf : FAt w w.heap.size A gl) (h12 : n ≤ 12) (h0 : 0 < n) :
    Calls Try.prog 50 #[.agg (fvC A n c).cs] w fun e w' => ∃ ob, e = .returned (.slice (some ⟨ob, 0, none⟩) n n) ∧ w'.ownsRow w.heap.size 3 1 (.slice (some ⟨ob, 0, none⟩) n n) n (ints (Rf.counts gl)) ∧ Below w.heap.size w w' := by
  have HF := Lib.hid hf
  have HN := Lib.hid hn
  have hmk := make_ints n (by omega)
  have HOW := Lib.hid (own_few hf)
  clear hf hn
  go_enter Try.func50, Try.ntmps50
  go_wp2_with fail
  obtain ⟨W1, hW1⟩ : ∃ W1, w.alloc (.cells (fvC A n c).cs 32) = W1 := ⟨_, rfl⟩
  have hX1 : Blk W1 w.heap.size 32 (fvC A n c).cs := by rw [← hW1]; exact Blk.new _ _ _
  have hB1 : Below w.heap.size w W1 := by rw [← hW1]; exact (Below.refl _ _).alloc (Nat.le_refl _) _
  rw [hW1]
  clear hW1
  refine (deeps_any A n c gl W1 HN.out ((HF.out.below hB1 (Nat.le_refl _)).more hB1.size) h12).mono ?_
  rintro e w2 ⟨db, rfl, hrow, hb⟩
  obtain ⟨dp, hdp⟩ : ∃ dp, Rf.deeps gl = dp := ⟨_, rfl⟩
  have hdb : Rf.DB n dp := by rw [← hdp, HN.out]; exact (Rf.DB.zero _).rounds 6
  rw [hdp] at hrow
  have HDP := Lib.hid hdp
  have HDB := Lib.hid hdb
  have hX2 := hX1.below hb hX1.lt
  have hB2 := hB1.trans (hb.mono hB1.size)
  have hrow2 := owns_mono hrow hB1.size
  have y1 := hX2.cell 1
  have yl := hX2.lt
  simp only [List.getElem?_toArray, List.getElem?_cons_zero, List.getElem?_cons_succ] at y1
  have HX2 := Lib.hid hX2
  have HB2 := Lib.hid hB2
  have HROW2 := Lib.hid hrow2
  clear hX1 hB1 hrow hb hdp hdb hX2 hB2 hrow2
  go_upto_region 3 with fail
  have hst : CtI w A n c db dp w2.heap.size (List.replicate n 0) (w2.alloc (.cells (ints (List.replicate n 0)).toArray 3)) := by
    refine ⟨⟨HX2.out.alloc _, ?_, HB2.out.alloc HB2.out.size _⟩, owns_grow HROW2.out ((Fr.refl _ _).alloc _), ?_⟩
    · have := owns_fresh (W := w2) (B := w.heap.size) (size := 1) (n := n) (t := 3) (xs := ints (List.replicate n 0)) (by simp [ints]) HB2.out.size (by unfold maxLen; omega)
      simpa using this
    · have := (owns_block HROW2.out rfl).2.1
      simp only at this
      omega
  obtain ⟨ob, hob⟩ : ∃ ob, w2.heap.size = ob := ⟨_, rfl⟩
  rw [hob] at hst
  conv => arg 4; rw [hob]
  generalize w2.alloc (.cells (ints (List.replicate n 0)).toArray 3) = W3 at hst ⊢
  have hst2 : CtI w A n c db dp ob (Rf.crounds gl 0) W3 := by
    have e : Rf.crounds gl 0 = List.replicate n 0 := by rw [HN.out]; rfl
    rw [e]; exact hst
  have HST := Lib.hid hst2
  clear hst hst2 hob y1 yl
  go_wp2_with fail
  go_loopw [5] (fun i wr => ∃ d : Nat, d ≤ 5 ∧ i = .int .i64 d ∧ CtI w A n c db dp ob (Rf.crounds gl d) wr) (fun i _ => 5 - (intOf i).toNat)
  case atStart => exact ⟨0, by omega, rfl, HST.out⟩
  case round =>
    obtain ⟨d, hd, rfl, hI⟩ := hrel
    have HI2 := Lib.hid hI
    have y1 := hI.one.font.cell 1
    have yl := hI.one.font.lt
    simp only [List.getElem?_toArray, List.getElem?_cons_zero, List.getElem?_cons_succ] at y1
    clear hI
    by_cases hd5 : d ≤ 4
    · have hr7 : decide ((d : Int) ≤ 4) = true := decide_eq_true (by omega)
      have hr8 : (d : Int) ≤ 4 := by omega
      have hr9 : decide (d ≤ 4) = true := decide_eq_true (by omega)
      go_wp2_with fail
      try simp only [hr7, hr9]
      clear hr7 hr8 hr9 y1 yl
      go_loopw [6] (fun i wr => ∃ a : Nat, a ≤ n ∧ i = .int .i64 a ∧ CtI w A n c db dp ob ((List.range a).foldl (Rf.cvisit gl dp d) (Rf.crounds gl d)) wr) (fun i _ => n - (intOf i).toNat)
      case atStart => exact ⟨0, Nat.zero_le _, rfl, HI2.out⟩
      case round =>
        obtain ⟨a, ha, rfl, hI⟩ := hrel
        obtain ⟨o, ho⟩ : ∃ o, (List.range a).foldl (Rf.cvisit gl dp d) (Rf.crounds gl d) = o := ⟨_, rfl⟩
        rw [ho] at hI
        have hcb : Rf.CB n o := by
          rw [← ho]
          exact Rf.CB.visits HN.out HOW.out _ (fun g hg => by have := List.mem_range.1 hg; omega) (Rf.CB.rounds HN.out HOW.out d)
        have hsuc : (List.range (a + 1)).foldl (Rf.cvisit gl dp d) (Rf.crounds gl d) = Rf.cvisit gl dp d o a := by rw [List.range_succ, List.foldl_append, ho]; rfl
        have HSUC := Lib.hid hsuc
        have HO := Lib.hid ho
        have HCB := Lib.hid hcb
        have HI3 := Lib.hid hI
        have y0 := hI.one.font.cell 0
        have y1 := hI.one.font.cell 1
        have y2 := hI.one.font.cell 2
        have y3 := hI.one.font.cell 3
        have y4 := hI.one.font.cell 4
        have y5 := hI.one.font.cell 5
        have y6 := hI.one.font.cell 6
        have y7 := hI.one.font.cell 7
        have y8 := hI.one.font.cell 8
        have yl := hI.one.font.lt
        simp only [List.getElem?_toArray, List.getElem?_cons_zero, List.getElem?_cons_succ] at y0 y1 y2 y3 y4 y5 y6 y7 y8
        clear hI ho hcb hsuc
        by_cases han : a < n
        · have z0 := owns_cell HI3.out.dp (ints_at _ a (dp.getD a 0) (by rw [List.getD_eq_getElem?_getD, List.getElem?_eq_getElem (by rw [HDB.out.1]; exact han)]; rfl))
          have zl := (owns_block HI3.out.dp rfl).2.1
          simp only at zl
          obtain ⟨dv, hdv⟩ : ∃ dv, dp.getD a 0 = dv := ⟨_, rfl⟩
          rw [hdv] at z0
          have HDV := Lib.hid hdv
          clear hdv
          by_cases hde : dv = (d : Int)
          · subst hde
            obtain ⟨gg, hgg⟩ : ∃ gg, gl[a]? = some gg := ⟨_, List.getElem?_eq_getElem (by have := HN.out; omega)⟩
            obtain ⟨b, off, oA, oc, uA, uc, rfl, hb, hc3, _⟩ := HF.out.outline hgg
            have c3 := (HI3.out.one.below.cell (p := ⟨b, off + a * 9 + 3, none⟩) hb).trans hc3
            have hbw : b < wr.heap.size := by have := HI3.out.one.below.size; omega
            obtain ⟨pn, hpn⟩ : ∃ pn, pn = gg.pts.length := ⟨_, rfl⟩
            rw [← hpn] at c3
            have HON := Lib.hid (show Rf.ownN gl a = (pn : Int) by unfold Rf.ownN; rw [hgg, hpn]; rfl)
            obtain ⟨e0, f0, el⟩ := HI3.out.one.cells a (by rw [HCB.out.1]; exact han)
            have hfo : w.heap.size ≠ ob := by
              obtain ⟨_, _, cs', hb'⟩ := owns_block HI3.out.one.row rfl
              exact HI3.out.one.font.ne_ hb' (by decide)
            have hfo2 : ob ≠ w.heap.size := Ne.symm hfo
            have HI4 := Lib.hid (HI3.out.set a (pn : Int))
            clear hgg hc3 hpn
            go_wp2_with fail
            refine (rparts_any (some ⟨b, off, none⟩) n c a gl _ HN.out ((HF.out.below HI4.out.one.below (Nat.le_refl _)).more HI4.out.one.below.size) h12 han).mono ?_
            rintro e w5 ⟨pv, rfl, hrp, hb5⟩
            obtain ⟨P, hP⟩ : ∃ P, partsOf gl a = P := ⟨_, rfl⟩
            rw [hP] at hrp
            obtain ⟨m, hm⟩ : ∃ m, m = P.length := ⟨_, rfl⟩
            rw [← hm] at hrp
            obtain ⟨qA, qc, rfl, hqc, _⟩ := owns_form hrp
            have hm1000 : m ≤ 1000 := by rw [hm, ← hP]; exact parts_few HF.out a
            obtain ⟨o1, ho1⟩ : ∃ o1, o.set a (pn : Int) = o1 := ⟨_, rfl⟩
            have HI5 := Lib.hid (by have h := HI4.out.below' hb5; rw [ho1] at h; exact h : CtI w (some ⟨b, off, none⟩) n c db dp ob o1 w5)
            have HRP := Lib.hid (owns_mono hrp HI4.out.one.below.size)
            have HP := Lib.hid hP
            have HM := Lib.hid hm
            have HO1 := Lib.hid ho1
            have HCW := Lib.hid (show Rf.CW n a o1 by rw [← ho1]; exact HCB.out.start han (by have := HOW.out a; rw [HON.out] at this; exact this))
            clear hrp hb5 hP hm ho1 y0 y1 y2 y3 y4 y5 y6 y7 y8 yl z0 zl e0 f0 el c3 hbw
            go_wp2_with fail
            go_loopw [8] (fun i wr => ∃ k : Nat, k ≤ m ∧ i = .int .i64 k ∧ CtI w (some ⟨b, off, none⟩) n c db dp ob ((P.take k).foldl (Rf.addc a) o1) wr ∧ wr.ownsRow w.heap.size 48 3 (.slice qA m qc) m (prts P)) (fun i _ => m - (intOf i).toNat)
            case atStart => exact ⟨0, Nat.zero_le _, rfl, HI5.out, HRP.out⟩
            case round =>
              obtain ⟨k, hk, rfl, hI, hro⟩ := hrel
              obtain ⟨o2, ho2⟩ : ∃ o2, (P.take k).foldl (Rf.addc a) o1 = o2 := ⟨_, rfl⟩
              rw [ho2] at hI
              have hcw2 : Rf.CW n a o2 := by rw [← ho2]; exact Rf.CW.adds han _ HCW.out
              obtain ⟨e0, f0, el⟩ := hI.one.cells a (by rw [hcw2.1]; exact han)
              have hx := hcw2.2 a
              rw [if_pos rfl] at hx
              obtain ⟨x, hxe⟩ : ∃ x, o2.getD a 0 = x := ⟨_, rfl⟩
              rw [hxe] at e0 hx
              have HXE := Lib.hid hxe
              have HO2 := Lib.hid ho2
              have HI6 := Lib.hid hI
              have HRO := Lib.hid hro
              have HCW2 := Lib.hid hcw2
              clear hI hro hcw2 hxe ho2
              by_cases hkm : k < m
              · by_cases hx1 : x ≤ 1000
                · obtain ⟨⟨pg, px, py⟩, hpk⟩ : ∃ p, P[k]? = some p := ⟨_, List.getElem?_eq_getElem (by have := HM.out; omega)⟩
                  obtain ⟨c1, _, _⟩ := prts_at hpk
                  have hpin := (mem_psOf (show (pg, px, py) ∈ psOf gl.length _ from by have h := List.mem_of_getElem? hpk; rw [← HP.out] at h; exact h)).2
                  simp only at hpin
                  obtain ⟨q, rfl⟩ := Int.eq_ofNat_of_zero_le hpin.1
                  have hqn : q < n := by have := HN.out; omega
                  have htk : (P.take (k + 1)).foldl (Rf.addc a) o1 = Rf.addc a o2 ((q : Int), px, py) := by rw [List.take_add_one, hpk, List.foldl_append, HO2.out]; rfl
                  obtain ⟨vb, vcc, hv, _, _, hvl, hcell⟩ := owns_at HRO.out (by omega)
                  injection hv with hv1 hv2 hv3
                  subst hv1
                  clear hv2 hv3
                  have p0 := hcell _ _ c1
                  obtain ⟨d0, _, _⟩ := HI6.out.one.cells q (by rw [HCW2.out.1]; exact hqn)
                  have hy := HCW2.out.2 q
                  have hy2 : 0 ≤ o2.getD q 0 ∧ o2.getD q 0 ≤ 1002001 := by split at hy <;> omega
                  have hval : Rf.addc a o2 ((q : Int), px, py) = o2.set a (x + o2.getD q 0) := by unfold Rf.addc; rw [HXE.out, if_pos hx1, Int.toNat_natCast]
                  obtain ⟨y, hye⟩ : ∃ y, o2.getD q 0 = y := ⟨_, rfl⟩
                  rw [hye] at d0 hy2 hval
                  have HVAL := Lib.hid (htk.trans hval)
                  clear hpk c1 hpin hcell htk hval hye hy
                  go_wp2_with fail
                  have hS : wr.drew.cell? ⟨ob, a, none⟩ = some (.int .i64 x) ∧ wr.drew.cell? ⟨vb, k * 3, none⟩ = some (.int .i64 (q : Int)) ∧ wr.drew.cell? ⟨ob, q, none⟩ = some (.int .i64 y) := ⟨e0, p0, d0⟩
                  refine wp_region_seqT (fun i => !([16] : List Nat).contains i) (fun i => ([5, 11, 13] : List Nat).contains i) (fun i => ([] : List Nat).contains i) [0, 1, 2, 3, 4, 5, 6, 7, 8, 9, 10, 11, 12, 13, 14, 15, 16] (fun wq : World => wq.cell? ⟨ob, a, none⟩ = some (.int .i64 x) ∧ wq.cell? ⟨vb, k * 3, none⟩ = some (.int .i64 (q : Int)) ∧ wq.cell? ⟨ob, q, none⟩ = some (.int .i64 y)) (by kernel_rfl) (by kernel_rfl) (by kernel_rfl) (by kernel_rfl) ?_
                  iterate 16 (first | refine wpSeq_pureA (v := _) rfl rfl rfl ?_ | refine wpSeq_loadA (v := _) rfl rfl hS rfl ?_)
                  refine wpSeq_heavy rfl rfl (fun K hK => ?_); go_simp
                  refine hK _ _ (fun h => by cases h) ?_; clear hK K
                  refine wpSeq_end ?_
                  go_wp2_with fail
                  go_roundw
                  case rel => exact ⟨k + 1, by omega, by go_num, by rw [HVAL.out]; exact (HI6.out.set a _).drew, owns_keep (HI6.out.one.keep HRO.out) fun _ _ => rfl⟩
                  case measure => simp [intOf]; omega
                · have HFIN := Lib.hid (show P.foldl (Rf.addc a) (o.set a (pn : Int)) = o2 by
                    rw [HO1.out]
                    conv => lhs; rw [← List.take_append_drop k P, List.foldl_append, HO2.out]
                    exact Rf.adds_stop _ (by rw [HXE.out]; exact hx1))
                  have hr0 := Nat.le_refl 0
                  have hmn1 : (if x < (1001 : Int) then x else (1001 : Int)) = min x 1001 := by omega
                  have hmn2 : (if (1001 : Int) < x then (1001 : Int) else x) = min x 1001 := by omega
                  go_wp2_with fail
                  go_roundw
                  case rel =>
                    refine ⟨a + 1, by omega, by go_num, ?_⟩
                    rw [HSUC.out]
                    unfold Rf.cvisit
                    rw [if_pos HDV.out, HP.out, HON.out, HFIN.out]
                    unfold Rf.ctop
                    rw [HXE.out]
                    exact HI6.out.set a _
                  case measure => simp [intOf]; omega
              · obtain rfl : k = m := by omega
                have HFIN := Lib.hid (show P.foldl (Rf.addc a) (o.set a (pn : Int)) = o2 by
                  have h := HO2.out
                  rw [HM.out, List.take_length] at h
                  rw [HO1.out]; exact h)
                have hr0 := Nat.le_refl 0
                have hmn1 : (if x < (1001 : Int) then x else (1001 : Int)) = min x 1001 := by omega
                have hmn2 : (if (1001 : Int) < x then (1001 : Int) else x) = min x 1001 := by omega
                go_wp2_with fail
                go_roundw
                case rel =>
                  refine ⟨a + 1, by omega, by go_num, ?_⟩
                  rw [HSUC.out]
                  unfold Rf.cvisit
                  rw [if_pos HDV.out, HP.out, HON.out, HFIN.out]
                  unfold Rf.ctop
                  rw [HXE.out]
                  exact HI6.out.set a _
                case measure => simp [intOf]; omega
          · have hde2 : (dv == (d : Int)) = false := by simpa using hde
            go_wp2_with fail
            go_roundw
            case rel =>
              refine ⟨a + 1, by omega, by go_num, ?_⟩
              rw [HSUC.out]
              unfold Rf.cvisit
              rw [if_neg (by rw [HDV.out]; exact hde)]
              exact HI3.out
            case measure => simp [intOf]; omega
        · obtain rfl : a = n := by omega
          go_wp2_with fail
          go_roundw
          case rel =>
            refine ⟨d + 1, by omega, by go_num, ?_⟩
            rw [Rf.crounds_succ, HDP.out]
            unfold Rf.cround
            rw [← HN.out, HO.out]
            exact HI3.out
          case measure => simp [intOf]; omega
    · obtain rfl : d = 5 := by omega
      go_wp2_with fail
      go_ret
      exact ⟨_, rfl, HI2.out.one.row, HI2.out.one.below⟩
end Go.Proofs.Ytoklllbaihccnaa

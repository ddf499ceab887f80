/- compose.behind: its contract. Expanded from XCoT.src by expand.py. -/
import Derived.Test.YtoklllbaihccnaaCoS
set_option linter.unusedVariables false
set_option linter.unusedSimpArgs false
namespace Go.Proofs.Ytoklllbaihccnaa
open Go.RowKit Go.Shelf
abbrev Ol := List P3 × List Int
def behindO (a o : Ol) (p : Prt) : Ol := (a.1 ++ o.1.map (mvP p.2.1 p.2.2), a.2 ++ o.2.map fun e => wrap64 (e + a.1.length))
/-- an outline whose rows are the call's own -/
structure OlOwn (w : World) (base : Nat) (pv ev : Value) (o : Ol) : Prop where
  pts : w.ownsRow base 59 3 pv o.1.length (opts o.1)
  ends : w.ownsRow base 3 1 ev o.2.length (ints o.2)
theorem OlOwn.grow {w w' : World} {base : Nat} {pv ev : Value} {o : Ol} (h : OlOwn w base pv ev o) (hg : Grow w w') : OlOwn w' base pv ev o := ⟨owns_grow h.pts hg, owns_grow h.ends hg⟩
theorem OlOwn.mono {w : World} {base base' : Nat} {pv ev : Value} {o : Ol} (h : OlOwn w base pv ev o) (hb : base' ≤ base) : OlOwn w base' pv ev o := ⟨owns_mono h.pts hb, owns_mono h.ends hb⟩
/-- the blocks of an outline's rows -/
def olB (pv ev : Value) (k : Nat) : Prop := pv.ownBlock = some k ∨ ev.ownBlock = some k
/-- behind, while it appends: a' is what lies there -/
structure BhL (w : World) (base M0 : Nat) (pv ev pv' ev' mv : Value) (a' : Ol) (os : List Int) (W : World) : Prop where
  box : Blk W w.heap.size 39 #[pv', ev']
  res : Blk W (w.heap.size + 1 + 1 + 1) 39 #[.slice none 0 0, .slice none 0 0]
  own : OlOwn W base pv' ev' a'
  mov : W.ownsRow M0 3 1 mv os.length (ints os)
  ap : Apart ev' mv
  fr : Fr (olB pv ev) w W
  nw : ∀ k, olB pv' ev' k → olB pv ev k ∨ w.heap.size ≤ k
theorem bh_start {w W2 w6 : World} {base M0 : Nat} {pv ev v' mv : Value} {a : Ol} {os : List Int} {ms : List P3} (hb : Blk W2 w.heap.size 39 #[pv, ev]) (hr : Blk W2 (w.heap.size + 1 + 1 + 1) 39 #[.slice none 0 0, .slice none 0 0]) (ho : OlOwn W2 base pv ev a) (how : OlOwn w base pv ev a)
    (hm : W2.ownsRow M0 3 1 mv os.length (ints os)) (hM : w.heap.size ≤ M0) (hf : Grow w W2) (hrow : w6.ownsRow base 59 3 v' (a.1.length + ms.length) (opts a.1 ++ opts ms)) (hg : W2.grownBy w6 pv.ownBlock) (hn : v'.ownBlock = pv.ownBlock ∨ v'.ownBlock = some W2.heap.size) :
    Blk w6 w.heap.size 39 #[pv, ev] ∧ BhL w base M0 pv ev v' ev mv (a.1 ++ ms, a.2) os (w6.setCell ⟨w.heap.size, 0, none⟩ v') ∧ ∀ g t cs, Blk W2 g t cs → t ≠ 59 → Blk w6 g t cs := by
  have hpb : ∀ g, pv.ownBlock = some g → ∃ cs, Blk W2 g 59 cs := fun g e => (owns_block ho.pts e).2.2
  have k : ∀ g t cs, Blk W2 g t cs → t ≠ 59 → Blk w6 g t cs := fun g t cs h ht => (hg.block g h.lt (fun e => by obtain ⟨cs', h'⟩ := hpb g e.symm; exact h.ne_ h' ht rfl)).trans h
  have b6 := k _ _ _ hb (by decide)
  have e6 : w6.ownsRow base 3 1 ev a.2.length (ints a.2) := owns_grownBy ho.ends hg (apart_types ho.ends ho.pts (by decide))
  have m6 : w6.ownsRow M0 3 1 mv os.length (ints os) := owns_grownBy hm hg (apart_types hm ho.pts (by decide))
  have hpw : ∀ g, pv.ownBlock = some g → g < w.heap.size := fun g e => (owns_block how.pts e).2.1
  have hew : ∀ g, ev.ownBlock = some g → g < w.heap.size := fun g e => (owns_block how.ends e).2.1
  refine ⟨b6, ⟨?_, (k _ _ _ hr (by decide)).far (p := ⟨w.heap.size, 0, none⟩) (by simp only; omega) _, ⟨?_, owns_set e6 b6 (by decide) 0 v'⟩, owns_set m6 b6 (by decide) 0 v', fun g e1 e2 => ?_, ?_, fun g e => ?_⟩, k⟩
  · have := b6.set_ 0 v'
    simpa using this
  · have e : opts (a.1 ++ ms) = opts a.1 ++ opts ms := by simp [opts]
    show World.ownsRow _ _ _ _ _ (a.1 ++ ms).length (opts (a.1 ++ ms))
    rw [e, List.length_append]
    exact owns_set hrow b6 (by decide) 0 v'
  · have h1 := hew g e1
    have h2 := (owns_block hm e2).1
    omega
  · have h1 : Fr (olB pv ev) w w6 := ⟨hg.os.trans hf.os, hg.tape.trans hf.tape, hg.output.trans hf.output, Nat.le_trans hf.size hg.size, fun g hl hm => (hg.block g (by have := hf.size; omega) (fun e => hm (.inl e.symm))).trans (hf.block g hl (fun x => x))⟩
    exact h1.setCell (p := ⟨w.heap.size, 0, none⟩) (.inr (Nat.le_refl _)) v'
  · rcases e with e | e
    · rcases hn with hn | hn
      · exact .inl (.inl (hn ▸ e))
      · rw [hn] at e; injection e with e; right; have := hf.size; omega
    · exact .inl (.inr e)
theorem bh_push {w W w6 : World} {base M0 : Nat} {pv ev pv' ev' v' mv : Value} {a : Ol} {os : List Int} {x : Int} (h : BhL w base M0 pv ev pv' ev' mv a os W) (hM : w.heap.size ≤ M0) (hrow : w6.ownsRow base 3 1 v' (a.2.length + 1) (ints a.2 ++ [.int .i64 x])) (hg : W.grownBy w6 ev'.ownBlock) (hn : v'.ownBlock = ev'.ownBlock ∨ v'.ownBlock = some W.heap.size) :
    Blk w6 w.heap.size 39 #[pv', ev'] ∧ BhL w base M0 pv ev pv' v' mv (a.1, a.2 ++ [x]) os (w6.setCell ⟨w.heap.size, 1, none⟩ v') := by
  have hpb : ∀ g, ev'.ownBlock = some g → ∃ cs, Blk W g 3 cs := fun g e => (owns_block h.own.ends e).2.2
  have k : ∀ g t cs, Blk W g t cs → t ≠ 3 → Blk w6 g t cs := fun g t cs h ht => (hg.block g h.lt (fun e => by obtain ⟨cs', h'⟩ := hpb g e.symm; exact h.ne_ h' ht rfl)).trans h
  have b6 := k _ _ _ h.box (by decide)
  have e6 : w6.ownsRow base 59 3 pv' a.1.length (opts a.1) := owns_grownBy h.own.pts hg (apart_types h.own.pts h.own.ends (by decide))
  have m6 : w6.ownsRow M0 3 1 mv os.length (ints os) := owns_grownBy h.mov hg h.ap.symm
  refine ⟨b6, ?_, (k _ _ _ h.res (by decide)).far (p := ⟨w.heap.size, 1, none⟩) (by simp only; omega) _, ⟨owns_set e6 b6 (by decide) 1 v', ?_⟩, owns_set m6 b6 (by decide) 1 v', apart_pushed h.mov h.ap hn, ?_, fun g e => ?_⟩
  · have := b6.set_ 1 v'
    simpa using this
  · have e : ints (a.2 ++ [x]) = ints a.2 ++ [.int .i64 x] := by simp [ints]
    show World.ownsRow _ _ _ _ _ (a.2 ++ [x]).length (ints (a.2 ++ [x]))
    rw [e, List.length_append, List.length_singleton]
    exact owns_set hrow b6 (by decide) 1 v'
  · have h1 : Fr (olB pv ev) w w6 := ⟨hg.os.trans h.fr.os, hg.tape.trans h.fr.tape, hg.output.trans h.fr.output, Nat.le_trans h.fr.size hg.size, fun g hl hm => (hg.block g (by have := h.fr.size; omega) (fun e => by
      rcases h.nw g (.inr e.symm) with e2 | e2
      · exact hm e2
      · omega)).trans (h.fr.block g hl hm)⟩
    exact h1.setCell (p := ⟨w.heap.size, 1, none⟩) (.inr (Nat.le_refl _)) v'
  · rcases e with e | e
    · exact h.nw g (.inl e)
    · rcases hn with hn | hn
      · exact h.nw g (.inr (hn ▸ e))
      · rw [hn] at e; injection e with e; right; have := h.fr.size; omega
theorem BhL.grow {w W W' : World} {base M0 : Nat} {pv ev pv' ev' mv : Value} {a : Ol} {os : List Int} (h : BhL w base M0 pv ev pv' ev' mv a os W) (hg : Grow W W') : BhL w base M0 pv ev pv' ev' mv a os W' :=
  ⟨hg.blk h.box (fun x => x), hg.blk h.res (fun x => x), h.own.grow hg, owns_grow h.mov hg, h.ap, h.fr.trans (hg.mono fun _ _ x => x.elim), h.nw⟩
def BhI (w : World) (base M0 : Nat) (pv ev pv' mv : Value) (a o : Ol) (p : Prt) (i : Value) (wr : World) : Prop :=
  ∃ (j : Nat) (eA2 : Option Addr) (ec2 : Nat), j ≤ o.2.length ∧ i = .int .i64 j ∧ BhL w base M0 pv ev pv' (.slice eA2 (a.2.length + j) ec2) mv (a.1 ++ o.1.map (mvP p.2.1 p.2.2), a.2 ++ (o.2.take j).map fun e => wrap64 (e + a.1.length)) o.2 wr
set_option maxRecDepth 100000 in
set_option maxHeartbeats 4000000 in
theorem behind_any (base B : Nat) (pv ev : Value) (a o : Ol) (oA fA : Option Addr) (oc fc on fn : Nat) (p : Prt) (w : World) (ha : OlOwn w base pv ev a) (hbase : base ≤ w.heap.size) (ho : Reads w B 3 oA on (opts o.1)) (hf : Reads w B 1 fA fn (ints o.2)) (hon : o.1.length = on) (hfn : o.2.length = fn) (hB : B ≤ w.heap.size)
    (hsep : ∀ k, olB pv ev k → B ≤ k) (hl1 : a.1.length + on ≤ 100000000) (hl2 : a.2.length + fn ≤ 100000000) :
    Calls Try.prog 37 #[.agg #[pv, ev], .agg #[.slice oA on oc, .slice fA fn fc], .agg (pcs p)] w fun e w' => ∃ pv' ev', e = .returned (.agg #[pv', ev']) ∧ OlOwn w' base pv' ev' (behindO a o p) ∧ Fr (olB pv ev) w w' ∧ ∀ k, olB pv' ev' k → olB pv ev k ∨ w.heap.size ≤ k := by
  obtain ⟨aA, ac, hpv, hac, ham⟩ := owns_form ha.pts
  obtain ⟨eA, ec, hev, hec, hem⟩ := owns_form ha.ends
  subst hpv hev
  obtain ⟨an, han⟩ : ∃ n, n = a.1.length := ⟨_, rfl⟩
  obtain ⟨en, hen⟩ : ∃ n, n = a.2.length := ⟨_, rfl⟩
  rw [← han] at hac hl1
  rw [← hen] at hec hl2
  have HA : Hid (OlOwn w base (.slice aA an ac) (.slice eA en ec) a) := Lib.hid (by rw [han, hen]; exact ha)
  rw [← han, ← hen] at hsep
  simp only [← han, ← hen]
  have HO := Lib.hid ho
  have HF := Lib.hid hf
  have HON := Lib.hid hon
  have HFN := Lib.hid hfn
  have HAN := Lib.hid han
  have HEN := Lib.hid hen
  have HSEP := Lib.hid hsep
  obtain ⟨pg, px, py⟩ := p
  clear ha ho hf hon hfn han hen hsep
  by_cases h0 : on = 0 ∧ fn = 0
  · obtain ⟨rfl, rfl⟩ := h0
    have e1 : o.1 = [] := List.eq_nil_of_length_eq_zero HON.out
    have e2 : o.2 = [] := List.eq_nil_of_length_eq_zero HFN.out
    have HE : Hid (behindO a o (pg, px, py) = a) := Lib.hid (by simp [behindO, e1, e2])
    clear e1 e2
    go_enter Try.func37, Try.ntmps37
    go_wp2_with fail
    have hg : Grow w ((((w.alloc (.cells #[.slice aA an ac, .slice eA en ec] 39)).alloc (.cells #[.slice oA 0 oc, .slice fA 0 fc] 39)).alloc (.cells (pcs (pg, px, py)) 48)).alloc (.cells #[.slice aA an ac, .slice eA en ec] 39)) := ((((Fr.refl _ _).alloc _).alloc _).alloc _).alloc _
    exact bodyPost_ret (v := .agg #[.slice aA an ac, .slice eA en ec]) (by simp [results, Try.results37, go_sem]) rfl ⟨_, _, rfl, by rw [HE.out]; have := HA.out; exact this.grow hg, hg.mono fun _ _ x => x.elim, fun k e => .inl e⟩
  · have hne : (decide ((on : Int) = 0) && decide ((fn : Int) = 0)) = false := by
      by_cases h1 : on = 0
      · have : ¬ fn = 0 := fun h2 => h0 ⟨h1, h2⟩
        simp; omega
      · simp; omega
    by_cases h1 : on = 0
    · subst h1
      have h2 : ¬ fn = 0 := fun h2 => h0 ⟨rfl, h2⟩
      go_enter Try.func37, Try.ntmps37
      go_wp2_with fail
      obtain ⟨W0, hW0⟩ : ∃ W0, ((((w.alloc (.cells #[.slice aA an ac, .slice eA en ec] 39)).alloc (.cells #[.slice oA 0 oc, .slice fA fn fc] 39)).alloc (.cells (pcs (pg, px, py)) 48)).alloc (.cells #[.slice none 0 0, .slice none 0 0] 39)) = W0 := ⟨_, rfl⟩
      have hg0 : Grow w W0 := by rw [← hW0]; exact ((((Fr.refl _ _).alloc _).alloc _).alloc _).alloc _
      have hs0 : W0.heap.size = w.heap.size + 4 := by rw [← hW0]; simp
      have hb3 : Blk W0 w.heap.size 39 #[.slice aA an ac, .slice eA en ec] := by rw [← hW0]; exact (((Blk.new _ _ _).alloc _).alloc _).alloc _
      have hb6 : Blk W0 (w.heap.size + 1 + 1 + 1) 39 #[.slice none 0 0, .slice none 0 0] := by rw [← hW0]; exact Blk.new_at _ _ _ (by simp)
      rw [hW0]
      refine (moved_any oA fA 0 fn oc fc B o.1 o.2 px py W0 (HO.out.keep fun p h => (hg0.below hB).cell h) (HF.out.keep fun p h => (hg0.below hB).cell h) (by omega) (by omega) HON.out HFN.out (by omega)).mono ?_
      rintro e W1 ⟨mv, nv, rfl, hmo, hno, hg1⟩
      obtain ⟨mA, mc, rfl, _, _⟩ := owns_form hmo
      obtain ⟨nA, nc, rfl, hnc, _⟩ := owns_form hno
      have c3 := hg1.blk hb3 fun x => x
      have c6 := hg1.blk hb6 fun x => x
      have q0 := c3.cell 0
      have q1 := c3.cell 1
      have ql := c3.lt
      have qf := c3.frozen 0
      have hA1 := (HA.out.grow hg0).grow hg1
      have HA1 := Lib.hid hA1
      have HMO := Lib.hid hmo
      have HNO := Lib.hid hno
      have HG1 := Lib.hid (hg0.trans hg1)
      have HC3 := Lib.hid c3
      have HC6 := Lib.hid c6
      have HS1 := Lib.hid (show w.heap.size + 4 ≤ W1.heap.size by have := hg1.size; omega)
      have HS0 := Lib.hid hs0
      simp only [List.getElem?_toArray, List.getElem?_cons_zero, List.getElem?_cons_succ] at q0 q1
      obtain ⟨i1, hi0, hi1, hi2, hi3⟩ := info_m info_point
      have HA2 := Lib.hid (hA1.grow (w' := W1.alloc (.cells #[.slice mA 0 mc, .slice nA fn nc] 39)) ((Fr.refl _ _).alloc _))
      have HM2 := Lib.hid (owns_grow (w' := W1.alloc (.cells #[.slice mA 0 mc, .slice nA fn nc] 39)) hmo ((Fr.refl _ _).alloc _))
      have ho1 : (opts (o.1.map (mvP px py))).length = 0 * 3 := by rw [opts_len, List.length_map, HON.out]
      clear hg0 hg1 hb3 hb6 hs0 hW0 hmo hno c3 c6 hA1
      go_wp2_with (at_builtin; go_loud (refine wpList_append_any _ rfl (.tmp 32) (.tmp 34) _ rfl base 59 i1 _ 3 24 Try.underlying37 hi0 hi1 hi2 hi3 rfl (show 0 < 3 by decide) (.slice aA an ac) an (opts a.1) rfl (by have := HA2.out.pts; rwa [← HAN.out] at this) _ _ 0 _ _ rfl (Reads.of_own HM2.out) (opts_one _) (by unfold maxLen; omega) (by omega) (by have := HG1.out.size; simp; omega) ?_; intro v' w6 hrow hg hnew; have HST := Lib.hid (bh_start (ms := o.1.map (mvP px py)) (os := o.2) (HC3.out.alloc _) (HC6.out.alloc _) HA2.out HA.out (by rw [HFN.out]; exact owns_grow (w' := W1.alloc (.cells #[.slice mA 0 mc, .slice nA fn nc] 39)) HNO.out ((Fr.refl _ _).alloc _)) (by have := HS0.out; omega) (HG1.out.alloc _) (by rw [List.length_map, HON.out, ← HAN.out]; exact hrow) hg hnew); have t0 := HST.out.1.cell 0; simp only [List.getElem?_toArray, List.getElem?_cons_zero] at t0; have tf := HST.out.1.frozen 0; have tl := HST.out.1.lt; have b7 := HST.out.2.2 _ _ _ (Blk.new W1 39 #[.slice mA 0 mc, .slice nA fn nc]) (by decide); have t1 := b7.cell 1; simp only [List.getElem?_toArray, List.getElem?_cons_zero, List.getElem?_cons_succ] at t1; have t1l := b7.lt; obtain ⟨Av, cv, hve, _⟩ := owns_form hrow; subst hve; clear hrow hg hnew b7))
      go_loopw [40] (BhI w base W0.heap.size (.slice aA an ac) (.slice eA en ec) (.slice Av (an + 0) cv) (.slice nA fn nc) a o (pg, px, py)) (fun i _ => fn - (intOf i).toNat)
      case atStart => exact ⟨0, eA, ec, Nat.zero_le _, rfl, by have := HST.out.2.1; rw [← HEN.out]; simpa using this⟩
      case round =>
        obtain ⟨j, eA2, ec2, hj, rfl, hB⟩ := hrel
        rw [HFN.out] at hj
        rw [← HEN.out] at hB
        have b0 := hB.box.cell 0
        have b1 := hB.box.cell 1
        have bf0 := hB.box.frozen 0
        have bf1 := hB.box.frozen 1
        have bl := hB.box.lt
        simp only [List.getElem?_toArray, List.getElem?_cons_zero, List.getElem?_cons_succ] at b0 b1
        by_cases hlt : j < fn
        · obtain ⟨x, hx⟩ : ∃ x, o.2[j]? = some x := ⟨_, List.getElem?_eq_getElem (by have := HFN.out; omega)⟩
          obtain ⟨g, c, hv, _, hgb, hgl, hcell⟩ := owns_at hB.mov (by have := HFN.out; omega)
          injection hv with hv1 hv2 hv3
          subst hv1
          clear hv2 hv3
          have z0 := hcell _ _ (ints_at _ _ _ hx)
          have HB := Lib.hid hB
          have HX := Lib.hid hx
          obtain ⟨i2, hi20, hi21, hi22, hi23⟩ := info_m info_int
          obtain ⟨es, hes⟩ : ∃ es, (a.2 ++ (o.2.take j).map fun e => wrap64 (e + a.1.length)) = es := ⟨_, rfl⟩
          have hln : es.length = en + j := by rw [← hes, List.length_append, List.length_map, List.length_take, ← HEN.out, HFN.out]; omega
          rw [hes] at hB
          have hes2 : (a.2 ++ (o.2.take (j + 1)).map fun e => wrap64 (e + a.1.length)) = es ++ [wrap64 (x + an)] := by rw [← hes, List.take_add_one, hx, HAN.out]; simp
          have HES2 := Lib.hid hes2
          have HLN := Lib.hid hln
          have HBA := Lib.hid (hB.grow (W' := wr.alloc (.cells #[.int .i64 (wrap64 (x + an))] 3)) ((Fr.refl _ _).alloc _))
          clear HB hB hx hcell hes hln hes2
          go_wp2_with (at_builtin; go_loud (refine wpList_append_any _ rfl (.tmp 45) (.tmp 49) _ rfl base 3 i2 _ 1 8 Try.underlying22 hi20 hi21 hi22 hi23 rfl (show 0 < 1 by decide) (.slice eA2 (en + j) ec2) (en + j) (ints es) rfl (by have := HBA.out.own.ends; rwa [HLN.out] at this) _ _ 1 1 [.int .i64 (wrap64 (x + an))] rfl (Reads.blk (cs := [.int .i64 (wrap64 (x + an))]) (Blk.new _ _ _) 1 1 rfl) (by simp [Value.oneCell']) (by unfold maxLen; omega) (by omega) (by have := HBA.out.fr.size; omega) ?_; intro v2 w8 hrow hg hnew; have HSP := Lib.hid (bh_push (x := wrap64 (x + an)) HBA.out (by have := HS0.out; omega) (by rw [HLN.out]; exact hrow) hg hnew); have s0 := HSP.out.1.cell 1; simp only [List.getElem?_toArray, List.getElem?_cons_zero, List.getElem?_cons_succ] at s0; have sf := HSP.out.1.frozen 1; have sl := HSP.out.1.lt; obtain ⟨A2, c2, hve2, _⟩ := owns_form hrow; subst hve2; clear hrow hg hnew))
          go_roundw
          case rel => exact ⟨j + 1, A2, c2, by rw [HFN.out]; omega, by go_num, by rw [HES2.out, ← HEN.out]; exact HSP.out.2⟩
          case measure => simp [intOf]; omega
        · have hje : j = fn := by omega
          have r0 := hB.res.cell 0
          have r1 := hB.res.cell 1
          have rf0 := hB.res.frozen 0
          have rf1 := hB.res.frozen 1
          have rl := hB.res.lt
          simp only [List.getElem?_toArray, List.getElem?_cons_zero, List.getElem?_cons_succ] at r0 r1
          have HB := Lib.hid hB
          clear hB
          go_wp2_with fail
          subst hje
          have hb := HB.out
          rw [List.take_of_length_le (by have := HFN.out; omega)] at hb
          have hb7 := (hb.res.set_ 0 (.slice Av (an + 0) cv)).set_ 1 (.slice eA2 (en + j) ec2)
          have k0 := hb7.cell 0
          have k1 := hb7.cell 1
          simp at k0 k1
          have hbx := hb.res.set_ 0 (.slice Av (an + 0) cv)
          exact bodyPost_ret (v := .agg #[.slice Av (an + 0) cv, .slice eA2 (en + j) ec2]) (by simp [results, Try.results37, go_sem, k0, k1]) rfl ⟨_, _, rfl, ⟨owns_set (owns_set hb.own.pts hb.res (by decide) 0 _) hbx (by decide) 1 _, owns_set (owns_set hb.own.ends hb.res (by decide) 0 _) hbx (by decide) 1 _⟩, (hb.fr.setCell (p := ⟨w.heap.size + 1 + 1 + 1, 0, none⟩) (.inr (by simp only; omega)) _).setCell (p := ⟨w.heap.size + 1 + 1 + 1, 1, none⟩) (.inr (by simp only; omega)) _, hb.nw⟩
    · go_enter Try.func37, Try.ntmps37
      go_wp2_with fail
      obtain ⟨W0, hW0⟩ : ∃ W0, ((((w.alloc (.cells #[.slice aA an ac, .slice eA en ec] 39)).alloc (.cells #[.slice oA on oc, .slice fA fn fc] 39)).alloc (.cells (pcs (pg, px, py)) 48)).alloc (.cells #[.slice none 0 0, .slice none 0 0] 39)) = W0 := ⟨_, rfl⟩
      have hg0 : Grow w W0 := by rw [← hW0]; exact ((((Fr.refl _ _).alloc _).alloc _).alloc _).alloc _
      have hs0 : W0.heap.size = w.heap.size + 4 := by rw [← hW0]; simp
      have hb3 : Blk W0 w.heap.size 39 #[.slice aA an ac, .slice eA en ec] := by rw [← hW0]; exact (((Blk.new _ _ _).alloc _).alloc _).alloc _
      have hb6 : Blk W0 (w.heap.size + 1 + 1 + 1) 39 #[.slice none 0 0, .slice none 0 0] := by rw [← hW0]; exact Blk.new_at _ _ _ (by simp)
      rw [hW0]
      refine (moved_any oA fA on fn oc fc B o.1 o.2 px py W0 (HO.out.keep fun p h => (hg0.below hB).cell h) (HF.out.keep fun p h => (hg0.below hB).cell h) (by omega) (by omega) HON.out HFN.out (by omega)).mono ?_
      rintro e W1 ⟨mv, nv, rfl, hmo, hno, hg1⟩
      obtain ⟨mA, mc, rfl, _, _⟩ := owns_form hmo
      obtain ⟨nA, nc, rfl, hnc, _⟩ := owns_form hno
      have c3 := hg1.blk hb3 fun x => x
      have c6 := hg1.blk hb6 fun x => x
      have q0 := c3.cell 0
      have q1 := c3.cell 1
      have ql := c3.lt
      have qf := c3.frozen 0
      have hA1 := (HA.out.grow hg0).grow hg1
      have HA1 := Lib.hid hA1
      have HMO := Lib.hid hmo
      have HNO := Lib.hid hno
      have HG1 := Lib.hid (hg0.trans hg1)
      have HC3 := Lib.hid c3
      have HC6 := Lib.hid c6
      have HS1 := Lib.hid (show w.heap.size + 4 ≤ W1.heap.size by have := hg1.size; omega)
      have HS0 := Lib.hid hs0
      simp only [List.getElem?_toArray, List.getElem?_cons_zero, List.getElem?_cons_succ] at q0 q1
      obtain ⟨i1, hi0, hi1, hi2, hi3⟩ := info_m info_point
      have HA2 := Lib.hid (hA1.grow (w' := W1.alloc (.cells #[.slice mA on mc, .slice nA fn nc] 39)) ((Fr.refl _ _).alloc _))
      have HM2 := Lib.hid (owns_grow (w' := W1.alloc (.cells #[.slice mA on mc, .slice nA fn nc] 39)) hmo ((Fr.refl _ _).alloc _))
      have ho1 : (opts (o.1.map (mvP px py))).length = on * 3 := by rw [opts_len, List.length_map, HON.out]
      clear hg0 hg1 hb3 hb6 hs0 hW0 hmo hno c3 c6 hA1
      go_wp2_with (at_builtin; go_loud (refine wpList_append_any _ rfl (.tmp 32) (.tmp 34) _ rfl base 59 i1 _ 3 24 Try.underlying37 hi0 hi1 hi2 hi3 rfl (show 0 < 3 by decide) (.slice aA an ac) an (opts a.1) rfl (by have := HA2.out.pts; rwa [← HAN.out] at this) _ _ on _ _ rfl (Reads.of_own HM2.out) (opts_one _) (by unfold maxLen; omega) (by omega) (by have := HG1.out.size; simp; omega) ?_; intro v' w6 hrow hg hnew; have HST := Lib.hid (bh_start (ms := o.1.map (mvP px py)) (os := o.2) (HC3.out.alloc _) (HC6.out.alloc _) HA2.out HA.out (by rw [HFN.out]; exact owns_grow (w' := W1.alloc (.cells #[.slice mA on mc, .slice nA fn nc] 39)) HNO.out ((Fr.refl _ _).alloc _)) (by have := HS0.out; omega) (HG1.out.alloc _) (by rw [List.length_map, HON.out, ← HAN.out]; exact hrow) hg hnew); have t0 := HST.out.1.cell 0; simp only [List.getElem?_toArray, List.getElem?_cons_zero] at t0; have tf := HST.out.1.frozen 0; have tl := HST.out.1.lt; have b7 := HST.out.2.2 _ _ _ (Blk.new W1 39 #[.slice mA on mc, .slice nA fn nc]) (by decide); have t1 := b7.cell 1; simp only [List.getElem?_toArray, List.getElem?_cons_zero, List.getElem?_cons_succ] at t1; have t1l := b7.lt; obtain ⟨Av, cv, hve, _⟩ := owns_form hrow; subst hve; clear hrow hg hnew b7))
      go_loopw [40] (BhI w base W0.heap.size (.slice aA an ac) (.slice eA en ec) (.slice Av (an + on) cv) (.slice nA fn nc) a o (pg, px, py)) (fun i _ => fn - (intOf i).toNat)
      case atStart => exact ⟨0, eA, ec, Nat.zero_le _, rfl, by have := HST.out.2.1; rw [← HEN.out]; simpa using this⟩
      case round =>
        obtain ⟨j, eA2, ec2, hj, rfl, hB⟩ := hrel
        rw [HFN.out] at hj
        rw [← HEN.out] at hB
        have b0 := hB.box.cell 0
        have b1 := hB.box.cell 1
        have bf0 := hB.box.frozen 0
        have bf1 := hB.box.frozen 1
        have bl := hB.box.lt
        simp only [List.getElem?_toArray, List.getElem?_cons_zero, List.getElem?_cons_succ] at b0 b1
        by_cases hlt : j < fn
        · obtain ⟨x, hx⟩ : ∃ x, o.2[j]? = some x := ⟨_, List.getElem?_eq_getElem (by have := HFN.out; omega)⟩
          obtain ⟨g, c, hv, _, hgb, hgl, hcell⟩ := owns_at hB.mov (by have := HFN.out; omega)
          injection hv with hv1 hv2 hv3
          subst hv1
          clear hv2 hv3
          have z0 := hcell _ _ (ints_at _ _ _ hx)
          have HB := Lib.hid hB
          have HX := Lib.hid hx
          obtain ⟨i2, hi20, hi21, hi22, hi23⟩ := info_m info_int
          obtain ⟨es, hes⟩ : ∃ es, (a.2 ++ (o.2.take j).map fun e => wrap64 (e + a.1.length)) = es := ⟨_, rfl⟩
          have hln : es.length = en + j := by rw [← hes, List.length_append, List.length_map, List.length_take, ← HEN.out, HFN.out]; omega
          rw [hes] at hB
          have hes2 : (a.2 ++ (o.2.take (j + 1)).map fun e => wrap64 (e + a.1.length)) = es ++ [wrap64 (x + an)] := by rw [← hes, List.take_add_one, hx, HAN.out]; simp
          have HES2 := Lib.hid hes2
          have HLN := Lib.hid hln
          have HBA := Lib.hid (hB.grow (W' := wr.alloc (.cells #[.int .i64 (wrap64 (x + an))] 3)) ((Fr.refl _ _).alloc _))
          clear HB hB hx hcell hes hln hes2
          go_wp2_with (at_builtin; go_loud (refine wpList_append_any _ rfl (.tmp 45) (.tmp 49) _ rfl base 3 i2 _ 1 8 Try.underlying22 hi20 hi21 hi22 hi23 rfl (show 0 < 1 by decide) (.slice eA2 (en + j) ec2) (en + j) (ints es) rfl (by have := HBA.out.own.ends; rwa [HLN.out] at this) _ _ 1 1 [.int .i64 (wrap64 (x + an))] rfl (Reads.blk (cs := [.int .i64 (wrap64 (x + an))]) (Blk.new _ _ _) 1 1 rfl) (by simp [Value.oneCell']) (by unfold maxLen; omega) (by omega) (by have := HBA.out.fr.size; omega) ?_; intro v2 w8 hrow hg hnew; have HSP := Lib.hid (bh_push (x := wrap64 (x + an)) HBA.out (by have := HS0.out; omega) (by rw [HLN.out]; exact hrow) hg hnew); have s0 := HSP.out.1.cell 1; simp only [List.getElem?_toArray, List.getElem?_cons_zero, List.getElem?_cons_succ] at s0; have sf := HSP.out.1.frozen 1; have sl := HSP.out.1.lt; obtain ⟨A2, c2, hve2, _⟩ := owns_form hrow; subst hve2; clear hrow hg hnew))
          go_roundw
          case rel => exact ⟨j + 1, A2, c2, by rw [HFN.out]; omega, by go_num, by rw [HES2.out, ← HEN.out]; exact HSP.out.2⟩
          case measure => simp [intOf]; omega
        · have hje : j = fn := by omega
          have r0 := hB.res.cell 0
          have r1 := hB.res.cell 1
          have rf0 := hB.res.frozen 0
          have rf1 := hB.res.frozen 1
          have rl := hB.res.lt
          simp only [List.getElem?_toArray, List.getElem?_cons_zero, List.getElem?_cons_succ] at r0 r1
          have HB := Lib.hid hB
          clear hB
          go_wp2_with fail
          subst hje
          have hb := HB.out
          rw [List.take_of_length_le (by have := HFN.out; omega)] at hb
          have hb7 := (hb.res.set_ 0 (.slice Av (an + on) cv)).set_ 1 (.slice eA2 (en + j) ec2)
          have k0 := hb7.cell 0
          have k1 := hb7.cell 1
          simp at k0 k1
          have hbx := hb.res.set_ 0 (.slice Av (an + on) cv)
          exact bodyPost_ret (v := .agg #[.slice Av (an + on) cv, .slice eA2 (en + j) ec2]) (by simp [results, Try.results37, go_sem, k0, k1]) rfl ⟨_, _, rfl, ⟨owns_set (owns_set hb.own.pts hb.res (by decide) 0 _) hbx (by decide) 1 _, owns_set (owns_set hb.own.ends hb.res (by decide) 0 _) hbx (by decide) 1 _⟩, (hb.fr.setCell (p := ⟨w.heap.size + 1 + 1 + 1, 0, none⟩) (.inr (by simp only; omega)) _).setCell (p := ⟨w.heap.size + 1 + 1 + 1, 1, none⟩) (.inr (by simp only; omega)) _, hb.nw⟩
end Go.Proofs.Ytoklllbaihccnaa

/- fleuronlaw21: few and made: their contracts. -/
import Derived.Test.YtnalbkjbidaojaaGzA
import Derived.Test.YtnalbkjbidaojaaMadeM
import Derived.Test.YtnalbkjbidaojaaNumL
namespace Go.Proofs.Ytnalbkjbidaojaa
open Go.RowKit Mc

theorem run_append_fresh {P : Program} (w : World) (t ty e : TypeId) (i : TypeInfo) (z : Value) (size bytes : Nat) (ht : P.underlying t = some (.slice e)) (hi : P.info? e = some i) (hz : i.zero = some z)
    (hsize : i.size = size) (hby : i.bytes = bytes) (hzs : z.cells.size = size) (hsz : 0 < size) (base : Nat) (hbase : base ≤ w.heap.size) (g : Nat) (hg : base ≤ g) (hk : Blk w g e #[])
    (B : Nat) (A : Option Addr) (m c : Nat) (news : List Value) (hr : Reads w B size A m news) (h1 : ∀ u ∈ news, u.oneCell' = true) (h63 : m ≤ maxLen) (hbytes : m * bytes ≤ 140737488355328) :
    ∃ v' w', (Builtin.append_ #[t, t] ty #[.slice (some ⟨g, 0, none⟩) 0 0, .slice A m c]).run P w = .ok v' w' ∧ w'.ownsRow base e size v' m news ∧ Grow w w' := by
  rcases Nat.eq_zero_or_pos m with h0 | h0
  · subst h0
    have hn : news = [] := List.eq_nil_of_length_eq_zero (by simpa using hr.1)
    subst hn
    exact ⟨_, w, run_append_zero w t ty e i ht hi _ _ _ (Nat.le_refl _) A c, owns_empty hk hg, Fr.refl _ _⟩
  · obtain ⟨b, off, rfl, hb, hc⟩ := hr.2 h0
    have hadd : ∀ (j : Nat), (⟨b, off, none⟩ : Addr).add j = ⟨b, off + j, none⟩ := fun j => by unfold Addr.add; split <;> simp_all
    obtain ⟨v', w', hrun, ho, hgr⟩ := run_append_arg_grows (P := P) w t ty e i z size bytes ht hi hz hsize hby hzs hsz ⟨g, 0, none⟩ 0 0 [] (by simp) (fun j u hu => by simp at hu) ⟨b, off, none⟩ m c news hr.1 (fun j u hu => by rw [hadd]; exact hc j u hu) (by omega) (by omega) (by simpa using hbytes)
    exact ⟨v', w', hrun, by simpa using owns_mono ho hbase, grow_of_grown (Fr.refl _ _) hgr (fun g e => by cases e)⟩
theorem yields_append {P : Program} {o : Oper} {ev : Operand → Value} {w w' : World} {K : Value → World → Prop} {v u v' : Value} (s x : Operand) (t : TypeId)
    (ho : o.op = .call { callee := .builtin .append, args := #[s, x], argTypes := #[t, t] }) (hs : ev s = v) (hx : ev x = u) (hrun : (Builtin.append_ #[t, t] o.type #[v, u]).run P w = .ok v' w') (h : K v' w') : yields P o ev w K := by
  unfold yields execOp
  simp only [ho, resolve, invoke, builtin, Sem.run_bind, Sem.run_pure, Result.andThen_ok, List.map_toArray, List.map_cons, List.map_nil, hs, hx, hrun]
  exact h
/-- an outline of the call's own -/
def OlPost (w : World) (n : Nat) (px : List Value) (m : Nat) (ex : List Value) (e : Ending) (w' : World) : Prop := ∃ vp ve, e = .returned (.agg #[vp, ve]) ∧ w'.ownsRow w.heap.size 61 3 vp n px ∧ w'.ownsRow w.heap.size 3 1 ve m ex ∧ Grow w w'
def FwV (fb N n n2 m m2 pc ec : Nat) (pA eA : Option Addr) (px ex : List Value) (i : Nat) (v : Value) (W : World) : Prop :=
  match i with
  | 0 => ∃ g, v = .slice (some ⟨g, 0, none⟩) 0 0 ∧ N ≤ g ∧ Blk W g 61 #[]
  | 1 => v = .pointer (some ⟨fb, 0, none⟩)
  | 2 => v = .slice pA n pc
  | 3 => v = .pointer (some ⟨fb, 0, none⟩)
  | 4 => v = .slice pA n pc
  | 5 => v = .int .i64 (n : Int)
  | 6 => v = .int .i64 (n2 : Int)
  | 7 => v = .slice pA n2 pc
  | 8 => W.ownsRow N 61 3 v n2 px
  | 9 => ∃ g, v = .slice (some ⟨g, 0, none⟩) 0 0 ∧ N ≤ g ∧ Blk W g 3 #[]
  | 10 => v = .pointer (some ⟨fb, 1, none⟩)
  | 11 => v = .slice eA m ec
  | 12 => v = .pointer (some ⟨fb, 1, none⟩)
  | 13 => v = .slice eA m ec
  | 14 => v = .int .i64 (m : Int)
  | 15 => v = .int .i64 (m2 : Int)
  | 16 => v = .slice eA m2 ec
  | 17 => W.ownsRow N 3 1 v m2 ex
  | 18 => ∃ vp ve, v = .agg #[vp, ve] ∧ W.ownsRow N 61 3 vp n2 px ∧ W.ownsRow N 3 1 ve m2 ex
  | _ => True
theorem FwV.grow {fb N n n2 m m2 pc ec : Nat} {pA eA : Option Addr} {px ex : List Value} {i : Nat} {v : Value} {W W' : World} (h : FwV fb N n n2 m m2 pc ec pA eA px ex i v W) (hg : Grow W W') : FwV fb N n n2 m m2 pc ec pA eA px ex i v W' := by
  match i with
  | 1 | 2 | 3 | 4 | 5 | 6 | 7 | 10 | 11 | 12 | 13 | 14 | 15 | 16 => exact h
  | 0 => obtain ⟨g, e, h1, h2⟩ := h; exact ⟨g, e, h1, hg.blk h2 (fun x => x)⟩
  | 9 => obtain ⟨g, e, h1, h2⟩ := h; exact ⟨g, e, h1, hg.blk h2 (fun x => x)⟩
  | 8 => exact owns_grow h hg
  | 17 => exact owns_grow h hg
  | 18 => obtain ⟨vp, ve, e, h1, h2⟩ := h; exact ⟨vp, ve, e, owns_grow h1 hg, owns_grow h2 hg⟩
  | i + 19 => trivial

theorem opts_one (l : List (Int × Int × Bool)) : ∀ u ∈ opts l, u.oneCell' = true := by
  intro u hu
  simp only [opts, List.mem_flatMap, List.mem_cons, List.not_mem_nil, or_false] at hu
  obtain ⟨p, _, rfl | rfl | rfl⟩ := hu <;> rfl
set_option maxHeartbeats 2000000 in
set_option maxRecDepth 100000 in
theorem gfew_any (w : World) (B : Nat) (hB : B ≤ w.heap.size) (pA eA : Option Addr) (pc ec : Nat) (pl : List (Int × Int × Bool)) (el : List Int) (hp : Reads w B 3 pA pl.length (opts pl)) (he : Reads w B 1 eA el.length (ints el)) (_hpl : pl.length ≤ maxLen) (_hel : el.length ≤ maxLen) (hpc : pl.length ≤ pc) (hec : el.length ≤ ec) :
    Calls Try.prog 10 #[.agg #[.slice pA pl.length pc, .slice eA el.length ec]] w (OlPost w (pl.take 40).length (opts (pl.take 40)) (el.take 40).length (ints (el.take 40))) := by
  obtain ⟨X, hX⟩ : ∃ X, X = ((w.alloc (.cells #[.slice pA pl.length pc, .slice eA el.length ec] 32)).alloc (.cells #[.slice none 0 0, .slice none 0 0] 32)) := ⟨_, rfl⟩
  have hXw : Grow w X := by rw [hX]; exact ((Fr.refl _ w).alloc _).alloc _
  have hb0 : Blk X w.heap.size 32 #[.slice pA pl.length pc, .slice eA el.length ec] := by rw [hX]; exact (Blk.new _ _ _).alloc _
  have hb1 : Blk X (w.heap.size + 1) 32 #[.slice none 0 0, .slice none 0 0] := by rw [hX]; exact Blk.new_at _ _ _ (by simp)
  have hl1 : (pl.take 40).length = min 40 pl.length := List.length_take
  have hl2 : (el.take 40).length = min 40 el.length := List.length_take
  have ho : opts (pl.take 40) = (opts pl).take ((pl.take 40).length * 3) := by
    have h0 : opts pl = opts (pl.take 40) ++ opts (pl.drop 40) := by unfold opts; rw [← List.flatMap_append, List.take_append_drop]
    rw [h0, ← opts_len, List.take_left]
  have hoi : ints (el.take 40) = (ints el).take ((el.take 40).length * 1) := by
    rw [Nat.mul_one]
    unfold ints
    rw [← List.map_take, hl2]
    rcases Nat.le_total 40 el.length with h | h
    · rw [Nat.min_eq_left h]
    · rw [Nat.min_eq_right h, List.take_of_length_le (Nat.le_refl _), List.take_of_length_le h]
  have hbl := Grow.below hXw (Nat.le_refl _)
  have hrp : Reads X B 3 pA (pl.take 40).length (opts (pl.take 40)) := by rw [ho]; exact reads_takeN (hp.below hbl hB) (by omega)
  have hre : Reads X B 1 eA (el.take 40).length (ints (el.take 40)) := by rw [hoi]; exact reads_takeN (he.below hbl hB) (by omega)
  have HO1 := Lib.hid (opts_one (pl.take 40))
  have HO2 := Lib.hid (ints_one (el.take 40))
  generalize opts (pl.take 40) = px at *
  generalize ints (el.take 40) = ex at *
  generalize (pl.take 40).length = n2 at *
  generalize (el.take 40).length = m2 at *
  generalize pl.length = n at *
  generalize el.length = m at *
  have HRP := Lib.hid hrp
  have HRE := Lib.hid hre
  have HFB := Lib.hid hb0
  have HB1 := Lib.hid hb1
  have HXG := Lib.hid hXw
  have hX0 := Lib.hid hX
  have HBX := Lib.hid (Nat.le_trans hB hXw.size)
  have HN2 := Lib.hid (show n2 ≤ 40 by omega)
  have HN3 := Lib.hid (show m2 ≤ 40 by omega)
  have HL1 := Lib.hid (show (n2 : Int) ≤ (n : Int) ∧ (n2 : Int) ≤ (pc : Int) by omega)
  have HL2 := Lib.hid (show (m2 : Int) ≤ (m : Int) ∧ (m2 : Int) ≤ (ec : Int) by omega)
  have HM1 : Hid (min (n : Int) 40 = (n2 : Int)) := Lib.hid (by omega)
  have HM2 : Hid (min (m : Int) 40 = (m2 : Int)) := Lib.hid (by omega)
  obtain ⟨i0, hi0, hi1, hi2, hi3⟩ := info_m point_info
  obtain ⟨j0, hj0, hj1, hj2, hj3⟩ := info_m info_int
  clear hp he _hpl _hel hpc hec hX hXw hb0 hb1 hl1 hl2 ho hoi hbl hrp hre hB
  go_enter Try.func10, Try.ntmps10
  go_upto_region 1 with fail
  rw [← hX0.out]
  refine wp_region_conc (FwV w.heap.size X.heap.size n n2 m m2 pc ec pA eA px ex) (fun W => Grow X W) Grow (by as_aux_lemma => kernel_rfl) (by as_aux_lemma => kernel_rfl) 19 rfl ?_ ?_ ?_ ?_
  · intro i v W W' hv hr
    exact hv.grow hr
  · exact (Fr.refl _ _).drew
  · intro j ev val W hj hG hev hd
    have _ec := hev.const
    have _ef := hev.func
    have HGG := Lib.hid hG
    have hzW := hG.size
    clear hG
    match j, hj with
    | 0, _ =>
      refine ⟨_, rfl, rfl, ?_⟩; unfold yields; go_simp
      exact ⟨⟨_, rfl, hzW, Blk.new _ _ _⟩, HGG.out.alloc _, (Fr.refl _ _).alloc _⟩
    | 1, _ =>
      have _s1 : ev (.tmp 1) = .pointer (some ⟨w.heap.size, 0, none⟩) := hev.other 1 (by kernel_rfl)
      refine ⟨_, rfl, rfl, ?_⟩; unfold yields; go_simp
      exact ⟨rfl, HGG.out, Fr.refl _ _⟩
    | 2, _ =>
      have d1 := hd 1 (by kernel_rfl); have x1 := hev.dep 1 4 (by kernel_rfl) (by kernel_rfl); simp only [FwV] at d1
      rw [d1] at x1
      have hp := HGG.out.blk HFB.out (fun x => x)
      have r0 := hp.cell 0
      simp only [List.getElem?_toArray, List.getElem?_cons_zero] at r0
      have hpl2 := hp.lt
      clear hp
      refine ⟨_, rfl, rfl, ?_⟩; unfold yields; go_simp
      exact ⟨rfl, HGG.out, Fr.refl _ _⟩
    | 3, _ =>
      have _s1 : ev (.tmp 1) = .pointer (some ⟨w.heap.size, 0, none⟩) := hev.other 1 (by kernel_rfl)
      refine ⟨_, rfl, rfl, ?_⟩; unfold yields; go_simp
      exact ⟨rfl, HGG.out, Fr.refl _ _⟩
    | 4, _ =>
      have d3 := hd 3 (by kernel_rfl); have x3 := hev.dep 3 6 (by kernel_rfl) (by kernel_rfl); simp only [FwV] at d3
      rw [d3] at x3
      have hp := HGG.out.blk HFB.out (fun x => x)
      have r0 := hp.cell 0
      simp only [List.getElem?_toArray, List.getElem?_cons_zero] at r0
      have hpl2 := hp.lt
      clear hp
      refine ⟨_, rfl, rfl, ?_⟩; unfold yields; go_simp
      exact ⟨rfl, HGG.out, Fr.refl _ _⟩
    | 5, _ =>
      have d4 := hd 4 (by kernel_rfl); have x4 := hev.dep 4 7 (by kernel_rfl) (by kernel_rfl); simp only [FwV] at d4
      rw [d4] at x4
      refine ⟨_, rfl, rfl, ?_⟩; unfold yields; go_simp
      exact ⟨rfl, HGG.out, Fr.refl _ _⟩
    | 6, _ =>
      have d5 := hd 5 (by kernel_rfl); have x5 := hev.dep 5 8 (by kernel_rfl) (by kernel_rfl); simp only [FwV] at d5
      rw [d5] at x5
      refine ⟨_, rfl, rfl, ?_⟩; unfold yields; go_simp
      exact ⟨by rw [HM1.out]; rfl, HGG.out, Fr.refl _ _⟩
    | 7, _ =>
      have d2 := hd 2 (by kernel_rfl); have x2 := hev.dep 2 5 (by kernel_rfl) (by kernel_rfl); simp only [FwV] at d2
      rw [d2] at x2
      have d6 := hd 6 (by kernel_rfl); have x6 := hev.dep 6 9 (by kernel_rfl) (by kernel_rfl); simp only [FwV] at d6
      rw [d6] at x6
      have hle := HL1.out.1
      have hlc := HL1.out.2
      refine ⟨_, rfl, rfl, ?_⟩; unfold yields; go_simp
      exact ⟨rfl, HGG.out, Fr.refl _ _⟩
    | 8, _ =>
      have d0 := hd 0 (by kernel_rfl); have x0 := hev.dep 0 3 (by kernel_rfl) (by kernel_rfl); simp only [FwV] at d0
      have d7 := hd 7 (by kernel_rfl); have x7 := hev.dep 7 10 (by kernel_rfl) (by kernel_rfl); simp only [FwV] at d7
      rw [d7] at x7
      obtain ⟨g, e0, hg0, hk⟩ := d0
      rw [e0] at x0
      obtain ⟨v5, w5, hrun, ho5, hg5⟩ := run_append_fresh (P := Try.prog) W 29 29 61 i0 _ 3 24 Try.underlying29 hi0 hi1 hi2 hi3 rfl (by decide) X.heap.size hzW g hg0 hk B pA n2 pc px (HRP.out.keep fun q hq => HGG.out.cell (by have := HBX.out; omega) (fun x => x)) HO1.out (by have := HN2.out; unfold maxLen; omega) (by have := HN2.out; omega)
      clear hk e0
      refine ⟨_, rfl, rfl, ?_⟩
      refine yields_append (.tmp 3) (.tmp 10) 29 rfl x0 x7 hrun ?_
      exact ⟨ho5, HGG.out.trans hg5, hg5⟩
    | 9, _ =>
      refine ⟨_, rfl, rfl, ?_⟩; unfold yields; go_simp
      exact ⟨⟨_, rfl, hzW, Blk.new _ _ _⟩, HGG.out.alloc _, (Fr.refl _ _).alloc _⟩
    | 10, _ =>
      have _s1 : ev (.tmp 1) = .pointer (some ⟨w.heap.size, 0, none⟩) := hev.other 1 (by kernel_rfl)
      refine ⟨_, rfl, rfl, ?_⟩; unfold yields; go_simp
      exact ⟨rfl, HGG.out, Fr.refl _ _⟩
    | 11, _ =>
      have d10 := hd 10 (by kernel_rfl); have x10 := hev.dep 10 13 (by kernel_rfl) (by kernel_rfl); simp only [FwV] at d10
      rw [d10] at x10
      have hp := HGG.out.blk HFB.out (fun x => x)
      have r0 := hp.cell 1
      simp only [List.getElem?_toArray, List.getElem?_cons_zero, List.getElem?_cons_succ] at r0
      have hpl2 := hp.lt
      clear hp
      refine ⟨_, rfl, rfl, ?_⟩; unfold yields; go_simp
      exact ⟨rfl, HGG.out, Fr.refl _ _⟩
    | 12, _ =>
      have _s1 : ev (.tmp 1) = .pointer (some ⟨w.heap.size, 0, none⟩) := hev.other 1 (by kernel_rfl)
      refine ⟨_, rfl, rfl, ?_⟩; unfold yields; go_simp
      exact ⟨rfl, HGG.out, Fr.refl _ _⟩
    | 13, _ =>
      have d12 := hd 12 (by kernel_rfl); have x12 := hev.dep 12 15 (by kernel_rfl) (by kernel_rfl); simp only [FwV] at d12
      rw [d12] at x12
      have hp := HGG.out.blk HFB.out (fun x => x)
      have r0 := hp.cell 1
      simp only [List.getElem?_toArray, List.getElem?_cons_zero, List.getElem?_cons_succ] at r0
      have hpl2 := hp.lt
      clear hp
      refine ⟨_, rfl, rfl, ?_⟩; unfold yields; go_simp
      exact ⟨rfl, HGG.out, Fr.refl _ _⟩
    | 14, _ =>
      have d13 := hd 13 (by kernel_rfl); have x13 := hev.dep 13 16 (by kernel_rfl) (by kernel_rfl); simp only [FwV] at d13
      rw [d13] at x13
      refine ⟨_, rfl, rfl, ?_⟩; unfold yields; go_simp
      exact ⟨rfl, HGG.out, Fr.refl _ _⟩
    | 15, _ =>
      have d14 := hd 14 (by kernel_rfl); have x14 := hev.dep 14 17 (by kernel_rfl) (by kernel_rfl); simp only [FwV] at d14
      rw [d14] at x14
      refine ⟨_, rfl, rfl, ?_⟩; unfold yields; go_simp
      exact ⟨by rw [HM2.out]; rfl, HGG.out, Fr.refl _ _⟩
    | 16, _ =>
      have d11 := hd 11 (by kernel_rfl); have x11 := hev.dep 11 14 (by kernel_rfl) (by kernel_rfl); simp only [FwV] at d11
      rw [d11] at x11
      have d15 := hd 15 (by kernel_rfl); have x15 := hev.dep 15 18 (by kernel_rfl) (by kernel_rfl); simp only [FwV] at d15
      rw [d15] at x15
      have hle := HL2.out.1
      have hlc := HL2.out.2
      refine ⟨_, rfl, rfl, ?_⟩; unfold yields; go_simp
      exact ⟨rfl, HGG.out, Fr.refl _ _⟩
    | 17, _ =>
      have d9 := hd 9 (by kernel_rfl); have x9 := hev.dep 9 12 (by kernel_rfl) (by kernel_rfl); simp only [FwV] at d9
      have d16 := hd 16 (by kernel_rfl); have x16 := hev.dep 16 19 (by kernel_rfl) (by kernel_rfl); simp only [FwV] at d16
      rw [d16] at x16
      obtain ⟨g, e9, hg0, hk⟩ := d9
      rw [e9] at x9
      obtain ⟨v5, w5, hrun, ho5, hg5⟩ := run_append_fresh (P := Try.prog) W 30 30 3 j0 _ 1 8 Try.underlying30 hj0 hj1 hj2 hj3 rfl (by decide) X.heap.size hzW g hg0 hk B eA m2 ec ex (HRE.out.keep fun q hq => HGG.out.cell (by have := HBX.out; omega) (fun x => x)) HO2.out (by have := HN3.out; unfold maxLen; omega) (by have := HN3.out; omega)
      clear hk e9
      refine ⟨_, rfl, rfl, ?_⟩
      refine yields_append (.tmp 12) (.tmp 19) 30 rfl x9 x16 hrun ?_
      exact ⟨ho5, HGG.out.trans hg5, hg5⟩
    | 18, _ =>
      have d8 := hd 8 (by kernel_rfl); have x8 := hev.dep 8 11 (by kernel_rfl) (by kernel_rfl); simp only [FwV] at d8
      have d17 := hd 17 (by kernel_rfl); have x17 := hev.dep 17 20 (by kernel_rfl) (by kernel_rfl); simp only [FwV] at d17
      obtain ⟨Ap, kp, e8, _⟩ := owns_form d8
      obtain ⟨Ae, ke, e17, _⟩ := owns_form d17
      rw [e8] at x8 d8
      rw [e17] at x17 d17
      refine ⟨_, rfl, rfl, ?_⟩; unfold yields; go_simp
      exact ⟨⟨_, _, rfl, d8, d17⟩, HGG.out, Fr.refl _ _⟩
    | i + 19, hi => exact absurd hi (by simp)
  · intro val W hG hV
    obtain ⟨vp, ve, e18, h1, h2⟩ := hV 18 (by decide)
    obtain ⟨Ap, kp, rfl, _⟩ := owns_form h1
    obtain ⟨Ae, ke, rfl, _⟩ := owns_form h2
    have hzb := hG.blk HB1.out (fun x => x)
    have y0 := hzb.cell 0
    have y1 := hzb.cell 1
    simp only [List.getElem?_toArray, List.getElem?_cons_zero, List.getElem?_cons_succ] at y0 y1
    have yf := hzb.frozen
    have yl := hzb.lt
    obtain ⟨q3, hq3⟩ : ∃ q, q = ((W.setCell ⟨w.heap.size + 1, 0, none⟩ (.slice Ap n2 kp)).setCell ⟨w.heap.size + 1, 1, none⟩ (.slice Ae m2 ke)) := ⟨_, rfl⟩
    have k1 := hzb.set_ 0 (.slice Ap n2 kp)
    have k2 := k1.set_ 1 (.slice Ae m2 ke)
    have o1 := owns_box (owns_box h1 hzb (by decide) 0 (.slice Ap n2 kp)) k1 (by decide) 1 (.slice Ae m2 ke)
    have o2 := owns_box (owns_box h2 hzb (by decide) 0 (.slice Ap n2 kp)) k1 (by decide) 1 (.slice Ae m2 ke)
    have g2 := (((HXG.out.trans hG).setCell (p := ⟨w.heap.size + 1, 0, none⟩) (.inr (by show w.heap.size ≤ w.heap.size + 1; omega)) (.slice Ap n2 kp)).setCell (p := ⟨w.heap.size + 1, 1, none⟩) (.inr (by show w.heap.size ≤ w.heap.size + 1; omega)) (.slice Ae m2 ke))
    rw [← hq3] at k2 o1 o2 g2
    have z0 := k2.cell 0
    have z1 := k2.cell 1
    simp only [List.getElem?_toArray, List.getElem?_cons_zero, List.getElem?_cons_succ, List.setIfInBounds_toArray, List.set_cons_zero, List.set_cons_succ] at z0 z1
    have zl := k2.lt
    have hO := HXG.out.size
    have HE := Lib.hid (show OlPost w n2 px m2 ex (.returned (.agg #[.slice Ap n2 kp, .slice Ae m2 ke])) q3 from ⟨_, _, rfl, owns_mono o1 hO, owns_mono o2 hO, g2⟩)
    clear hV hG h1 h2 hzb k1 k2 o1 o2 g2 hO
    unfold wpOp
    change (if _ then _ else _)
    rw [if_pos (by kernel_rfl)]
    refine .inl ?_
    simp only [fillA, dstOf, List.getElem?_toArray, List.getElem?_cons_zero, List.getElem?_cons_succ, Option.bind_some, e18]
    go_simp
    rw [← hq3]
    clear y0 y1 yf yl hq3
    go_wp2
    exact bodyPost_ret (v := .agg #[.slice Ap n2 kp, .slice Ae m2 ke]) (by simp [results, Try.results10, go_sem, z0, z1]) rfl HE.out

/-- a font that is made, what it points to below block B -/
structure FtAt (N0 : Nat) (w' : World) (B : Nat) (gA fA cA : Option Addr) (gl : List GlyD) (fl : List (List (Int × Int))) (cl : List Int) : Prop where
  gs : RowAt (glyphR N0) 74 w' B gA gl
  fs : RowAt (codeR N0) 49 w' B fA fl
  cs : Reads w' B 1 cA cl.length (ints cl)
  ci : ∀ x ∈ cl, -9223372036854775808 ≤ x ∧ x ≤ 9223372036854775807
  g2 : 2 ≤ gl.length
  g10 : gl.length ≤ 10
  gb : ∀ g ∈ gl, g.pts.length ≤ 10 ∧ g.hint.length ≤ 54
  f2 : fl.length ≤ 2
  fb : ∀ f ∈ fl, f.length ≤ 36
  c3 : cl.length ≤ 3
theorem FtAt.below {N0 B : Nat} {w w' : World} {gA fA cA : Option Addr} {gl : List GlyD} {fl : List (List (Int × Int))} {cl : List Int} (h : FtAt N0 w B gA fA cA gl fl cl) (hb : Below B w w') : FtAt N0 w' B gA fA cA gl fl cl :=
  ⟨h.gs.below hb (Nat.le_refl _), h.fs.below hb (Nat.le_refl _), h.cs.below hb (Nat.le_refl _), h.ci, h.g2, h.g10, h.gb, h.f2, h.fb, h.c3⟩
def FtPost (N0 : Nat) (w : World) (e : Ending) (w' : World) : Prop :=
  ∃ (n2 : Int) (gA fA cA A4 A5 A6 A7 A8 : Option Addr) (gc fc cc m4 m5 m6 m7 m8 c4 c5 c6 c7 c8 : Nat) (gl : List GlyD) (fl : List (List (Int × Int))) (cl : List Int),
    e = .returned (.agg #[.int .i64 n2, .slice gA gl.length gc, .slice A4 m4 c4, .slice A5 m5 c5, .slice A6 m6 c6, .slice A7 m7 c7, .slice A8 m8 c8, .slice fA fl.length fc, .slice cA cl.length cc]) ∧ I64 n2 ∧ FtAt N0 w' w'.heap.size gA fA cA gl fl cl ∧ Below w.heap.size w w'
set_option maxHeartbeats 2000000 in
set_option maxRecDepth 100000 in
theorem gmade_any (N0 : Nat) (w : World) (A : Option Addr) (c : Nat) (xs : List Int) (hN : N0 ≤ w.heap.size) (hr : Reads w w.heap.size 1 A xs.length (ints xs)) (hx : ∀ x ∈ xs, I64 x) (_hsn : xs.length ≤ maxLen) (hc : xs.length ≤ c) :
    Calls Try.prog 9 #[.slice A xs.length c] w (FtPost N0 w) := by
  obtain ⟨X, hX⟩ : ∃ X, X = w.alloc (.cells #[.int .i64 0, .slice none 0 0, .slice none 0 0, .slice none 0 0, .slice none 0 0, .slice none 0 0, .slice none 0 0, .slice none 0 0, .slice none 0 0] 42) := ⟨_, rfl⟩
  have hXw : Below w.heap.size w X := by rw [hX]; exact (Below.refl _ _).alloc (Nat.le_refl _) _
  have hb0 : Blk X w.heap.size 42 #[.int .i64 0, .slice none 0 0, .slice none 0 0, .slice none 0 0, .slice none 0 0, .slice none 0 0, .slice none 0 0, .slice none 0 0, .slice none 0 0] := by rw [hX]; exact Blk.new _ _ _
  have hl : (xs.take 300).length = min 300 xs.length := List.length_take
  have hri : Reads X X.heap.size 1 A (xs.take 300).length ((xs.take 300).map (Value.int .i64)) := by
    have h1 := reads_takeN ((hr.below hXw (Nat.le_refl _)).more hXw.size) (show (xs.take 300).length ≤ xs.length by omega)
    have e : (ints xs).take ((xs.take 300).length * 1) = (xs.take 300).map (Value.int .i64) := by
      rw [Nat.mul_one, hl]
      unfold ints
      rw [← List.map_take]
      rcases Nat.le_total 300 xs.length with h | h
      · rw [Nat.min_eq_left h]
      · rw [Nat.min_eq_right h, List.take_of_length_le (Nat.le_refl _), List.take_of_length_le h]
    rw [e] at h1
    exact h1
  have HM := Lib.hid (made_any N0 X A (xs.take 300).length c (xs.take 300) (Nat.le_trans hN hXw.size) hri (fun x h => hx x (List.mem_of_mem_take h)) (by omega))
  have HX := Lib.hid hX
  have HXW := Lib.hid hXw
  have HB0 := Lib.hid hb0
  have HN := Lib.hid hN
  generalize (xs.take 300).length = n2 at *
  generalize xs.length = n at *
  have hmin : min (n : Int) 300 = (n2 : Int) := by omega
  have h1 : (n2 : Int) ≤ (n : Int) := by omega
  have h2 : (n2 : Int) ≤ (c : Int) := by omega
  clear hr hx _hsn hc hX hXw hb0 hl hri hN
  go_enter Try.func9, Try.ntmps9
  go_upto_region 1 with fail
  rw [← HX.out]
  go_wp2_with fail
  refine HM.out.mono ?_
  rintro e w2 ⟨q2, v3, v4, v5, v6, v7, v8, v9, v10, gl, fl, cl, rfl, hq2, r1, r2, r3, ⟨A4, m4, c4, rfl, _⟩, ⟨A5, m5, c5, rfl, _⟩, ⟨A6, m6, c6, rfl, _⟩, ⟨A7, m7, c7, rfl, _⟩, ⟨A8, m8, c8, rfl, _⟩, g1, g2, g3, g4, g5, g6, hbl⟩
  have hk := HB0.out.below hbl HB0.out.lt
  obtain ⟨gA, gc, e1, _, _, r1'⟩ := r1
  obtain ⟨fA, fc, e2, _, _, r2'⟩ := r2
  obtain ⟨cA, cc, e3, _, _, r3'⟩ := r3
  injection e1 with e1 _
  injection e2 with e2 _
  injection e3 with e3 _
  subst e1 e2 e3
  generalize hn2 : q2 = n2' at *
  have y0 := hk.cell 0
  have y1 := hk.cell 1
  have y2 := hk.cell 2
  have y3 := hk.cell 3
  have y4 := hk.cell 4
  have y5 := hk.cell 5
  have y6 := hk.cell 6
  have y7 := hk.cell 7
  have y8 := hk.cell 8
  simp only [List.getElem?_toArray, List.getElem?_cons_zero, List.getElem?_cons_succ] at y0 y1 y2 y3 y4 y5 y6 y7 y8
  have yf := hk.frozen
  have yl := hk.lt
  obtain ⟨q, hq⟩ : ∃ q, q = (((((((((w2.setCell ⟨w.heap.size, 0, none⟩ (.int .i64 n2')).setCell ⟨w.heap.size, 1, none⟩ (.slice gA gl.length gc)).setCell ⟨w.heap.size, 2, none⟩ (.slice A4 m4 c4)).setCell ⟨w.heap.size, 3, none⟩ (.slice A5 m5 c5)).setCell ⟨w.heap.size, 4, none⟩ (.slice A6 m6 c6)).setCell ⟨w.heap.size, 5, none⟩ (.slice A7 m7 c7)).setCell ⟨w.heap.size, 6, none⟩ (.slice A8 m8 c8)).setCell ⟨w.heap.size, 7, none⟩ (.slice fA fl.length fc)).setCell ⟨w.heap.size, 8, none⟩ (.slice cA cl.length cc)) := ⟨_, rfl⟩
  have hkk : ∀ g, g ≠ w.heap.size → q.heap[g]? = w2.heap[g]? := fun g hg => by
    rw [hq, Below.heap_setCell _ _ _ _ hg, Below.heap_setCell _ _ _ _ hg, Below.heap_setCell _ _ _ _ hg, Below.heap_setCell _ _ _ _ hg, Below.heap_setCell _ _ _ _ hg, Below.heap_setCell _ _ _ _ hg, Below.heap_setCell _ _ _ _ hg, Below.heap_setCell _ _ _ _ hg, Below.heap_setCell _ _ _ _ hg]
  have hqs : q.heap.size = w2.heap.size := by rw [hq]; simp only [size_setCell]
  have t1 := keepRb (Repr.row 74 (glyphR N0)) (⟨gA, gc, rfl, by assumption, by assumption, r1'⟩ : (Repr.row 74 (glyphR N0)).rel w2 w2.heap.size gl [.slice gA gl.length gc]) hk (by show 42 ∉ [74, 61, 3, 126, 130, 132, 68]; decide) HN.out hkk
  have t2 := keepRb (Repr.row 49 (codeR N0)) (⟨fA, fc, rfl, by assumption, by assumption, r2'⟩ : (Repr.row 49 (codeR N0)).rel w2 w2.heap.size fl [.slice fA fl.length fc]) hk (by show 42 ∉ [49, 68]; decide) HN.out hkk
  have t3 := keepRb (intsR N0) (⟨cA, cc, rfl, by assumption, by assumption, r3'⟩ : (intsR N0).rel w2 w2.heap.size cl [.slice cA cl.length cc]) hk (by show 42 ∉ [3]; decide) HN.out hkk
  obtain ⟨_, _, u1, _, _, t1'⟩ := t1
  obtain ⟨_, _, u2, _, _, t2'⟩ := t2
  obtain ⟨_, _, u3, _, _, t3'⟩ := t3
  injection u1 with u1 _
  injection u1 with u1 _ w19
  subst w19
  injection u2 with u2 _
  injection u2 with u2 _ w29
  subst w29
  injection u3 with u3 _
  injection u3 with u3 _ w39
  subst w39
  subst u1 u2 u3
  have hci : ∀ x ∈ cl, -9223372036854775808 ≤ x ∧ x ≤ 9223372036854775807 := fun x hx => by
    obtain ⟨i, hi⟩ := List.getElem?_of_mem hx
    obtain ⟨_, _, _, _, _, hr, _⟩ := t3'.get hi
    exact hr.2
  have hrd : Reads q w2.heap.size 1 cA cl.length (ints cl) := by
    have h := t3'.reads (fun x => [.int .i64 x]) (fun a cs h => h.1)
    rw [ints_flatF] at h
    exact h
  have HBQ : Below w.heap.size w q := by
    have h0 := HXW.out.trans (hbl.mono HXW.out.size)
    have hle : w.heap.size ≤ w.heap.size := Nat.le_refl _
    rw [hq]
    exact ((((((((h0.setCell (p := ⟨w.heap.size, 0, none⟩) hle _).setCell (p := ⟨w.heap.size, 1, none⟩) hle _).setCell (p := ⟨w.heap.size, 2, none⟩) hle _).setCell (p := ⟨w.heap.size, 3, none⟩) hle _).setCell (p := ⟨w.heap.size, 4, none⟩) hle _).setCell (p := ⟨w.heap.size, 5, none⟩) hle _).setCell (p := ⟨w.heap.size, 6, none⟩) hle _).setCell (p := ⟨w.heap.size, 7, none⟩) hle _).setCell (p := ⟨w.heap.size, 8, none⟩) hle _
  have hFT : FtAt N0 q q.heap.size gA fA cA gl fl cl := ⟨hqs ▸ t1', hqs ▸ t2', hqs ▸ hrd, hci, g1, g2, g3, g4, g5, g6⟩
  have HEND := Lib.hid (show FtPost N0 w (.returned (.agg #[.int .i64 n2', .slice gA gl.length gc, .slice A4 m4 c4, .slice A5 m5 c5, .slice A6 m6 c6, .slice A7 m7 c7, .slice A8 m8 c8, .slice fA fl.length fc, .slice cA cl.length cc])) q from ⟨_, _, _, _, _, _, _, _, _, _, _, _, _, _, _, _, _, _, _, _, _, _, _, _, _, rfl, hn2 ▸ hq2, hFT, HBQ⟩)
  have k9 := (((((((((hk.set_ 0 (.int .i64 n2')).set_ 1 (.slice gA gl.length gc)).set_ 2 (.slice A4 m4 c4)).set_ 3 (.slice A5 m5 c5)).set_ 4 (.slice A6 m6 c6)).set_ 5 (.slice A7 m7 c7)).set_ 6 (.slice A8 m8 c8)).set_ 7 (.slice fA fl.length fc)).set_ 8 (.slice cA cl.length cc))
  rw [← hq] at k9
  have z0 := k9.cell 0
  have z1 := k9.cell 1
  have z2 := k9.cell 2
  have z3 := k9.cell 3
  have z4 := k9.cell 4
  have z5 := k9.cell 5
  have z6 := k9.cell 6
  have z7 := k9.cell 7
  have z8 := k9.cell 8
  simp only [List.getElem?_toArray, List.getElem?_cons_zero, List.getElem?_cons_succ, List.setIfInBounds_toArray, List.set_cons_zero, List.set_cons_succ] at z0 z1 z2 z3 z4 z5 z6 z7 z8
  have zl := k9.lt
  have HQ := Lib.hid hq
  clear hk hkk hqs r1' r2' r3' t1' t2' t3' hci hrd HBQ hFT k9 hn2 hq2 hbl HM hmin h1 h2 g1 g2 g3 g4 g5 g6 hq
  go_wp2
  rw [← HQ.out]
  exact bodyPost_ret (v := .agg #[.int .i64 n2', .slice gA gl.length gc, .slice A4 m4 c4, .slice A5 m5 c5, .slice A6 m6 c6, .slice A7 m7 c7, .slice A8 m8 c8, .slice fA fl.length fc, .slice cA cl.length cc]) (by simp [results, Try.results9, go_sem, z0, z1, z2, z3, z4, z5, z6, z7, z8]) rfl HEND.out
end Go.Proofs.Ytnalbkjbidaojaa

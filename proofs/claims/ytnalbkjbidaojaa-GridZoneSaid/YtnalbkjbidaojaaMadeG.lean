/- fleuronref07's maker: a rule, its contract. -/
import Derived.Test.YtnalbkjbidaojaaMkB
namespace Go.Proofs.Ytnalbkjbidaojaa
open Go.RowKit

def RulePost (N0 : Nat) (m : MkC) (w : World) (e : Ending) (w' : World) : Prop :=
  ∃ (r : RuleD) (vb vi va vo vc : Value), e = .returned (.agg #[vb, vi, va, vo, vc, .int .i64 r.x]) ∧ (ruleR N0).rel w' w'.heap.size r [vb, vi, va, vo, vc, .int .i64 r.x] ∧ Mk w' m ∧ FrM m.M w w'
def RuleSome (N0 : Nat) (m : MkC) (w0 : World) (rb B1 : Nat) (wx : World) : Prop := ∃ vb vi va vo vc r, RuleI N0 m w0 rb B1 wx vb vi va vo vc r
/-- In has one set still, and is full; Out and Calls have nothing -/
def RuleOne (N0 : Nat) (m : MkC) (w0 : World) (rb : Nat) (wx : World) : Prop :=
  ∃ vb va A r, RuleI N0 m w0 rb wx.heap.size wx vb (.slice A 1 1) va (.slice none 0 0) (.slice none 0 0) r ∧ r.out = [] ∧ r.calls = [] ∧ r.inn.length = 1 ∧ ∀ t ∈ r.inn, t.length ≤ 4

theorem rowsIR_at {N0 : Nat} {w : World} {B : Nat} {l : List (List Int)} {A : Option Addr} {n c : Nat} (h : (rowsIR N0).rel w B l [.slice A n c]) : l.length = n ∧ n ≤ c ∧ c ≤ maxLen ∧ RowAt (intsR N0) 30 w B A l := by
  obtain ⟨A', c', e, h1, h2, h3⟩ := h
  simp only [List.cons.injEq, Value.slice.injEq, and_true] at e
  obtain ⟨rfl, rfl, rfl⟩ := e
  exact ⟨rfl, h1, h2, h3⟩
theorem RowAt.fr {N0 : Nat} {α : Type} {R : Repr N0 α} {t : TypeId} {w w' : World} {B : Nat} {A : Option Addr} {l : List α} (h : RowAt R t w B A l) {M : Nat} {tM : TypeId} {xM : Array Value} (hf : Fr (fun k => k = M) w w') (hM : Blk w M tM xM) (hne : tM ∉ t :: R.tys) (hN : N0 ≤ M) : RowAt R t w' B A l :=
  h.keep fun g t' xs fz _ ht hh => by
    have hlt : g < w.heap.size := (Array.getElem?_eq_some_iff.1 hh).1
    rw [hf.block g hlt]
    · exact hh
    · rintro rfl
      rcases ht with ht | ht
      · omega
      · unfold Blk at hM
        rw [hM] at hh
        injection hh with hh
        injection hh with _ h2
        exact hne (h2 ▸ ht)
theorem ruleR_tys (N0 : Nat) : 139 ∉ (ruleR N0).tys := by simp [ruleR, rowsIR, intsR, callR, Repr.map, Repr.row, Repr.pair, Repr.int]
theorem RuleI.rel {N0 : Nat} {m : MkC} {w0 wx : World} {rb B1 : Nat} {vb vi va vo vc : Value} {r : RuleD} (h : RuleI N0 m w0 rb B1 wx vb vi va vo vc r) : (ruleR N0).rel wx wx.heap.size r [vb, vi, va, vo, vc, .int .i64 r.x] :=
  ⟨[_], [_, _, _, _, _], rfl, (rowsIR N0).more h.back h.hB.2, [_], [_, _, _, _], rfl, (rowsIR N0).more h.inn h.hB.2, [_], [_, _, _], rfl, (rowsIR N0).more h.ahead h.hB.2, [_], [_, _], rfl, h.out.rel, [_], [_], rfl, h.calls.rel, rfl, h.x⟩
theorem rule_fin {N0 : Nat} {m : MkC} {w w0 wx : World} {rb B1 : Nat} {vb vi va vo vc : Value} {r : RuleD} {xs : Array Value} (h : RuleI N0 m w0 rb B1 wx vb vi va vo vc r) (hres : Blk wx w.heap.size 139 xs) (hM : m.M < w.heap.size) (hf : FrM m.M w wx) :
    RulePost N0 m w (.returned (.agg #[vb, vi, va, vo, vc, .int .i64 r.x])) ((((((wx.setCell ⟨w.heap.size, 0, none⟩ vb).setCell ⟨w.heap.size, 1, none⟩ vi).setCell ⟨w.heap.size, 2, none⟩ va).setCell ⟨w.heap.size, 3, none⟩ vo).setCell ⟨w.heap.size, 4, none⟩ vc).setCell ⟨w.heap.size, 5, none⟩ (.int .i64 r.x)) := by
  have hN : N0 ≤ w.heap.size := by have := h.hM.1; omega
  have h0 := h.rel
  have h1 := (ruleR N0).setCell h0 hres (ruleR_tys N0) hN 0 vb
  have h2 := (ruleR N0).setCell h1 (hres.set_ 0 vb) (ruleR_tys N0) hN 1 vi
  have h3 := (ruleR N0).setCell h2 ((hres.set_ 0 vb).set_ 1 vi) (ruleR_tys N0) hN 2 va
  have h4 := (ruleR N0).setCell h3 (((hres.set_ 0 vb).set_ 1 vi).set_ 2 va) (ruleR_tys N0) hN 3 vo
  have h5 := (ruleR N0).setCell h4 ((((hres.set_ 0 vb).set_ 1 vi).set_ 2 va).set_ 3 vo) (ruleR_tys N0) hN 4 vc
  have h6 := (ruleR N0).setCell h5 (((((hres.set_ 0 vb).set_ 1 vi).set_ 2 va).set_ 3 vo).set_ 4 vc) (ruleR_tys N0) hN 5 (.int .i64 r.x)
  refine ⟨r, vb, vi, va, vo, vc, rfl, by simp only [size_setCell]; exact h6, ?_, ?_⟩
  · exact (((((h.hmk.setCell hM _).setCell hM _).setCell hM _).setCell hM _).setCell hM _).setCell hM _
  · exact (((((hf.setCell (.inr (Nat.le_refl _)) _).setCell (.inr (Nat.le_refl _)) _).setCell (.inr (Nat.le_refl _)) _).setCell (.inr (Nat.le_refl _)) _).setCell (.inr (Nat.le_refl _)) _).setCell (.inr (Nat.le_refl _)) _

set_option maxHeartbeats 4000000 in
set_option maxRecDepth 100000 in
theorem rule_any (N0 : Nat) (m : MkC) (w : World) (kind : Int) (cA : Option Addr) (cc : Nat) (cl : List Int) (gA : Option Addr) (gn gc : Nat) (h : Mk w m) (hN : N0 ≤ m.M) (hc : m.c3 = .slice gA gn gc) (hg0 : 1 ≤ gn) (hg1 : gn ≤ 1000)
    (hcl : RowAt (Repr.int (N0 := N0)) 3 w w.heap.size cA cl) (hcn : cl.length ≤ 1000) :
    Calls Try.prog 53 #[.pointer (some ⟨m.M, 0, none⟩), .int .i64 kind, .slice cA cl.length cc] w (RulePost N0 m w) := by
  obtain ⟨i1, ji, jz0, jz1, jz2⟩ := info_parts introws_info
  obtain ⟨i2, li, lz0, lz1, lz2⟩ := info_parts intM_info
  obtain ⟨i3, ki, kz0, kz1, kz2⟩ := info_parts call_info
  have hMl := h.lt
  obtain ⟨xM, hbM⟩ := h.blk
  have HBM := Lib.hid hbM
  clear hbM
  have HMK := Lib.hid h
  have HC := Lib.hid hc
  have HCL := Lib.hid hcl
  clear h hc hcl
  obtain ⟨w0, hw0⟩ : ∃ w0, w0 = w.alloc (.cells #[.slice none 0 0, .slice none 0 0, .slice none 0 0, .slice none 0 0, .slice none 0 0, .int .i64 0] 139) := ⟨_, rfl⟩
  have hz : w0.heap.size = w.heap.size + 1 := by rw [hw0]; simp
  have hres : Blk w0 w.heap.size 139 #[.slice none 0 0, .slice none 0 0, .slice none 0 0, .slice none 0 0, .slice none 0 0, .int .i64 0] := by rw [hw0]; exact Blk.new _ _ _
  have hfw : FrM m.M w w0 := by rw [hw0]; exact (Fr.refl _ _).alloc _
  have hnil : (rowsIR N0).rel (w0.alloc (.cells #[.slice none 0 0, .slice none 0 0, .slice none 0 0, .slice none 0 0, .slice none 0 0, .int .i64 0] 139)) (w.heap.size + 1 + 1) [] [.slice none 0 0] := ⟨_, _, rfl, Nat.le_refl _, Nat.zero_le _, RowAt.nil _ _ _ _ _⟩
  have hI0 : RuleI N0 m w0 (w.heap.size + 1) (w.heap.size + 1 + 1) (w0.alloc (.cells #[.slice none 0 0, .slice none 0 0, .slice none 0 0, .slice none 0 0, .slice none 0 0, .int .i64 0] 139)) (.slice none 0 0) (.slice none 0 0) (.slice none 0 0) (.slice none 0 0) (.slice none 0 0) ⟨[], [], [], [], [], 0⟩ :=
    ⟨Blk.new_at _ _ _ (by omega), hnil, hnil, hnil, OwnAt.nil _ _ _ _, OwnAt.nil _ _ _ _, by unfold I64; simp only; omega, (by rw [hw0]; exact (HMK.out.alloc _).alloc _), (Fr.refl _ _).alloc _, ⟨by omega, by omega⟩, ⟨hN, by omega⟩, by omega, by simp; omega⟩
  have HRES := Lib.hid hres
  have HI0 := Lib.hid hI0
  have hcg := hI0.hmk.cells.1 3 (by omega)
  simp only [Nat.reduceSub, List.getElem?_toArray, List.getElem?_cons_succ, List.getElem?_cons_zero] at hcg
  rw [HC.out, hw0] at hcg
  have HW0 := Lib.hid hw0
  clear hres hI0 hnil hw0 HMK
  go_enter Try.func53, Try.ntmps53
  go_wp2_with fail
  rw [← HW0.out]
  refine (mkSet_any N0 m _ gA gn gc HI0.out.hmk hN HC.out hg0 hg1).mono ?_
  rintro e w2 ⟨l2, A2, c2, rfl, e1, e2, hrow, hl2, hmk2, hfr2⟩
  have hI1 := (HI0.out.next hmk2 hfr2).adv rfl rfl
  have hI1b := hI1.hB
  have b0 := hI1.box.cell 1
  have b1 := hI1.box.frozen 1
  have b2 := hI1.box.lt
  simp only [List.getElem?_toArray, List.getElem?_cons_succ, List.getElem?_cons_zero] at b0
  have hI2 : RuleOne N0 m w0 (w.heap.size + 1) ((w2.alloc (.cells #[.slice A2 l2.length c2] 30)).setCell ⟨w.heap.size + 1, 1, none⟩ (.slice (some ⟨w2.heap.size, 0, none⟩) 1 1)) := by
    have ha := (hI1.alloc (.cells #[.slice A2 l2.length c2] 30)).adv rfl rfl
    have hin : (rowsIR N0).rel (w2.alloc (.cells #[.slice A2 l2.length c2] 30)) (w2.alloc (.cells #[.slice A2 l2.length c2] 30)).heap.size [l2] [.slice (some ⟨w2.heap.size, 0, none⟩) 1 1] :=
      ⟨_, _, rfl, by simp, by unfold maxLen; omega, RowAt.of_blk [[_]] (Blk.new _ _ _) (by simp) ⟨⟨_, _, rfl, e1, e2, (hrow.below ((Below.refl _ _).alloc (Nat.le_refl _) _) (Nat.le_refl _)).more (by simp)⟩, trivial⟩⟩
    have hs := ha.set 1 (.slice (some ⟨w2.heap.size, 0, none⟩) 1 1) (r' := ⟨[], [l2], [], [], [], 0⟩) rfl ha.back hin ha.ahead ha.out ha.calls ha.x
    exact ⟨_, _, _, _, by rw [size_setCell]; exact hs, rfl, rfl, rfl, by simpa using hl2⟩
  have HI2 := Lib.hid hI2
  clear hI2 hI1 hmk2 hfr2 hrow hcg HI0
  go_upto_if 25 with (fail)
  rw [← World.setCell_alloc_past _ _ _ _ b2]
  obtain ⟨w3, hw3⟩ : ∃ w3, w3 = (w2.alloc (.cells #[.slice A2 l2.length c2] 30)).setCell ⟨w.heap.size + 1, 1, none⟩ (.slice (some ⟨w2.heap.size, 0, none⟩) 1 1) := ⟨_, rfl⟩
  rw [← hw3] at HI2 ⊢
  clear hw3 b0 b1 b2
  obtain ⟨vb, va, A, r, hI, ho, hc, hl, h4⟩ := HI2.out
  obtain ⟨Ab, nb, cb, rfl⟩ : ∃ Ab nb cb, vb = .slice Ab nb cb := by obtain ⟨A', c', e', _⟩ := hI.back; exact ⟨A', _, c', by injection e'⟩
  obtain ⟨Aa, na, ca, rfl⟩ : ∃ Aa na ca, va = .slice Aa na ca := by obtain ⟨A', c', e', _⟩ := hI.ahead; exact ⟨A', _, c', by injection e'⟩
  have HI := Lib.hid hI
  have HO := Lib.hid ho
  have HCS := Lib.hid hc
  have H4 := Lib.hid h4
  clear hI HI2 ho hc h4
  have hwlt : w.heap.size < w3.heap.size := by have := HI.out.fr.size; omega
  by_cases hk6 : kind = 6
  · subst hk6
    have hId := HI.out.drew
    have hS : w3.drew.cell? ⟨w.heap.size + 1, 1, none⟩ = some (.slice A 1 1) := by rw [hId.box.cell]; rfl
    go_wp2_with fail
    refine wp_region_seq (fun i => !([3, 4, 5, 7] : List Nat).contains i) (fun i => ([1] : List Nat).contains i) (fun i => ([3, 4] : List Nat).contains i) [0, 1, 2, 3, 4, 5, 6, 7] (fun w' => w'.cell? ⟨w.heap.size + 1, 1, none⟩ = some (.slice A 1 1)) (by kernel_rfl) (by kernel_rfl) (by kernel_rfl) (by kernel_rfl) ?_
    refine wpSeq_pure (v := _) rfl rfl rfl (by kernel_rfl) (fun _ _ _ h => h) (fun wq => by first | (go_simp; done) | (go_simp; rfl)) ?_
    refine wpSeq_load (v := _) rfl rfl (by kernel_rfl) (fun _ _ _ h => h) hS rfl (fun wq hq => by (try dsimp only at hq); first | (go_simp; done) | (go_simp; rfl)) ?_
    refine wpSeq_pure (v := _) rfl rfl rfl (by kernel_rfl) (fun _ _ _ h => h) (fun wq => by first | (go_simp; done) | (go_simp; rfl)) ?_
    refine wpSeq_heavy rfl rfl (fun K hK => ?_); go_simp
    refine (mkSet_any N0 m _ gA gn gc hId.hmk hN HC.out hg0 hg1).mono ?_
    rintro e w4 ⟨l4, A4, c4, rfl, f1, f2, hrow4, hl4, hmk4, hfr4⟩
    have hI4 := (hId.next hmk4 hfr4).adv HO.out HCS.out
    dsimp only
    refine hK _ _ (fun _ => by rw [hI4.box.cell]; rfl) ?_; clear hK K
    refine wpSeq_heavy rfl rfl (fun K hK => ?_); go_simp
    have hI4a := (hI4.alloc (.cells #[.slice A4 l4.length c4] 30)).adv HO.out HCS.out
    refine hK _ _ (fun _ => by rw [hI4a.box.cell]; rfl) ?_; clear hK K
    refine wpSeq_heavy rfl rfl (fun K hK => ?_)
    rw [if_pos (by kernel_rfl)]
    refine wp_push_full _ (.tmp 27) (.tmp 30) _ rfl (intsR N0) 30 i1 _ 24 Try.underlying136 ji jz0 jz1 jz2 rfl A 1 r.inn hl (by omega) rfl (rowsIR_at hI4a.inn).2.2.2 (some ⟨w4.heap.size, 0, none⟩) 1 1 [l4] rfl rfl 30 (RowAt.of_blk [[_]] (Blk.new _ _ _) (by simp) ⟨⟨_, _, rfl, f1, f2, (hrow4.below ((Below.refl _ _).alloc (Nat.le_refl _) _) (Nat.le_refl _)).more (by simp)⟩, trivial⟩) (by unfold maxLen; omega) (by omega) ?_
    intro A5 c5 w5 g1 g2 hrow5 hb5
    have hI5 := (hI4a.below hb5).adv HO.out HCS.out
    have b0 := hI5.box.cell 1
    have b1 := hI5.box.frozen 1
    have b2 := hI5.box.lt
    simp only [List.getElem?_toArray, List.getElem?_cons_succ, List.getElem?_cons_zero] at b0
    refine hK _ _ (fun h => by cases h) ?_; clear hK K
    refine wpSeq_pure (v := _) rfl rfl rfl (by kernel_rfl) (fun _ _ _ h => h) (fun wq => by first | (go_simp; done) | (go_simp; rfl)) ?_
    refine wpSeq_heavy rfl rfl (fun K hK => ?_); go_simp
    refine hK _ _ (fun h => by cases h) ?_; clear hK K
    refine wpSeq_end ?_
    have hI6 := hI5.set 1 (.slice A5 2 c5) (r' := {r with inn := r.inn ++ [l4]}) rfl hI5.back ⟨_, _, by simp [hl], by simp [hl]; omega, g2, hrow5⟩ hI5.ahead hI5.out hI5.calls hI5.x
    generalize hw6 : w5.setCell _ _ = w6 at *
    go_wp2_with fail
    refine (mkNext_any _ m _ hI6.hmk (by omega) (by omega)).mono ?_
    rintro e w7 ⟨x, hx0, hx1, rfl, hmk7, hfr7, -⟩
    have hI7 := hI6.next hmk7 hfr7
    have b0 := hI7.box.cell 5
    have b1 := hI7.box.frozen 5
    have b2 := hI7.box.lt
    simp only [List.getElem?_toArray, List.getElem?_cons_succ, List.getElem?_cons_zero] at b0
    have hI8 := hI7.set 5 (.int .i64 (x * 10 - 200)) (r' := {r with inn := r.inn ++ [l4], x := x * 10 - 200}) rfl hI7.back hI7.inn hI7.ahead hI7.out hI7.calls (by unfold I64; simp only; omega)
    clear hw6 hI7 hI6 hmk7 hfr7 hI5 hb5 hI4a hI4 hId HI
    go_upto_region 7 with (fail)
    generalize hw8 : w7.setCell _ _ = w8 at *
    clear hw8 b0 b1 b2
    have y := hI8.box.cell
    have y2 := hI8.box.lt
    have hrb := hI8.fr.blk HRES.out (by omega)
    have q := hrb.cell
    have z := hrb.frozen
    have q2 := hrb.lt
    have hne : w.heap.size + 1 ≠ w.heap.size := by omega
    have hne2 : w.heap.size ≠ w.heap.size + 1 := by omega
    have HRB := Lib.hid hrb
    have HIF := Lib.hid hI8
    have HFF := Lib.hid (hfw.trans hI8.fr)
    clear hrb hI8
    go_wp2
    refine bodyPost_ret (v := .agg #[.slice Ab nb cb, .slice A5 2 c5, .slice Aa na ca, .slice none 0 0, .slice none 0 0, .int .i64 (x * 10 - 200)]) (by simp [results, Try.results53, go_sem, q]) rfl ?_
    exact rule_fin HIF.out HRB.out hMl HFF.out
  · have hb6 : (kind == 6) = false := by simpa using hk6
    go_wp2_with fail
    refine (mkNext_any _ m _ HI.out.hmk (by omega) (by omega)).mono ?_
    rintro e w4 ⟨x, hx0, hx1, rfl, hmk4, hfr4, -⟩
    have hI4 := (HI.out.next hmk4 hfr4).adv HO.out HCS.out
    have HI4 := Lib.hid hI4
    clear hI4 hmk4 hfr4 HI
    go_upto_if 41 with (fail)
    go_cut [] (fun wx => RuleOne N0 m w0 (w.heap.size + 1) wx)
    case first =>
      by_cases hx : x = 0
      · subst hx
        go_wp2_with fail
        refine (row_any N0 m _ 2 gA gn gc HI4.out.hmk hN HC.out hg0 hg1 (by omega) (by omega)).mono ?_
        rintro e w5 ⟨lb, A5, c5, rfl, f1, f2, hrow5, hl5, hmk5, hfr5⟩
        have hI5 := (HI4.out.next hmk5 hfr5).adv HO.out HCS.out
        have hI6 := hI5.set 0 (.slice A5 lb.length c5) (r' := {r with back := lb}) rfl ⟨_, _, rfl, f1, f2, hrow5⟩ hI5.inn hI5.ahead hI5.out hI5.calls hI5.x
        have b0 := hI5.box.cell 0
        have b1 := hI5.box.frozen 0
        have b2 := hI5.box.lt
        simp only [List.getElem?_toArray, List.getElem?_cons_zero] at b0
        have HI6 := Lib.hid hI6
        clear hI5 hI6 hrow5 hmk5 hfr5 HI4
        go_wp2_with fail
        obtain ⟨w6, hw6⟩ : ∃ w6, w6 = w5.setCell ⟨w.heap.size + 1, 0, none⟩ (.slice A5 lb.length c5) := ⟨_, rfl⟩
        rw [← hw6] at HI6 ⊢
        clear hw6 b0 b1 b2
        refine (row_any N0 m _ 2 gA gn gc HI6.out.hmk hN HC.out hg0 hg1 (by omega) (by omega)).mono ?_
        rintro e w7 ⟨la, A7, c7, rfl, f3, f4, hrow7, hl7, hmk7, hfr7⟩
        have hI7 := (HI6.out.next hmk7 hfr7).adv HO.out HCS.out
        have hI8 := hI7.set 2 (.slice A7 la.length c7) (r' := {r with back := lb, ahead := la}) rfl hI7.back hI7.inn ⟨_, _, rfl, f3, f4, hrow7⟩ hI7.out hI7.calls hI7.x
        have b0 := hI7.box.cell 2
        have b1 := hI7.box.frozen 2
        have b2 := hI7.box.lt
        simp only [List.getElem?_toArray, List.getElem?_cons_succ, List.getElem?_cons_zero] at b0
        have HI8 := Lib.hid hI8
        clear hI7 hI8 hrow7 hmk7 hfr7 HI6
        go_wp2_with fail
        go_meet
        exact ⟨_, _, _, {r with back := lb, ahead := la}, by rw [size_setCell]; exact HI8.out, HO.out, HCS.out, hl, H4.out⟩
      · have hxb : (x == 0) = false := by simpa using hx
        go_wp2_with fail
        go_meet
        exact ⟨_, _, _, _, HI4.out, HO.out, HCS.out, hl, H4.out⟩
    case rest =>
      clear HI4 HO HCS hl H4
      obtain ⟨vb, va, A, r, hI, ho, hc, hl, h4⟩ := hcut
      have HI := Lib.hid hI
      have HO := Lib.hid ho
      have HCS := Lib.hid hc
      have H4 := Lib.hid h4
      clear hI ho hc h4
      go_upto_block 0 with (fail)
      go_cut [] (fun wx => ∃ B1, RuleSome N0 m w0 (w.heap.size + 1) B1 wx)
      case first =>
        by_cases hk15 : kind = 1 ∨ kind = 5
        · obtain ⟨s0, hs0⟩ : ∃ s0, r.inn[0]? = some s0 := ⟨_, List.getElem?_eq_getElem (by omega)⟩
          have hs4 : s0.length ≤ 4 := H4.out s0 (List.mem_of_getElem? hs0)
          have HS0 := Lib.hid hs0
          have h0 : ∃ (k : Nat) (vo : Value) (r' : RuleD), k ≤ s0.length ∧ Value.int .i64 0 = .int .i64 k ∧ RuleI N0 m w0 (w.heap.size + 1) wc.heap.size wc vb (.slice A 1 1) va vo (.slice none 0 0) r' ∧ r'.inn = r.inn ∧ r'.out.length ≤ k := ⟨0, _, r, by omega, rfl, HI.out, rfl, by rw [HO.out]; simp⟩
          have H0 := Lib.hid h0
          clear hs0 h0
          rcases hk15 with rfl | rfl
          all_goals
            go_wp2_with fail
            go_loopw [9] (fun i wr => ∃ (k : Nat) (vo : Value) (r' : RuleD), k ≤ s0.length ∧ i = .int .i64 k ∧ RuleI N0 m w0 (w.heap.size + 1) wc.heap.size wr vb (.slice A 1 1) va vo (.slice none 0 0) r' ∧ r'.inn = r.inn ∧ r'.out.length ≤ k) (fun i _ => s0.length - (intOf i).toNat)
            case atStart => exact H0.out
            case round =>
              obtain ⟨k, vo, r', hk, rfl, hI, hin, hol⟩ := hrel
              have y := hI.box.cell 1
              have y2 := hI.box.lt
              simp only [List.getElem?_toArray, List.getElem?_cons_succ, List.getElem?_cons_zero] at y
              obtain ⟨ib, io, ics, hA, hib, ⟨iA, ic, rfl, _⟩, hcells⟩ := (rowsIR_at hI.inn).2.2.2.get (i := 0) (by rw [hin]; exact HS0.out)
              have y3 := hcells 0 _ rfl
              simp only [intsR, Repr.row, Nat.zero_mul, Nat.add_zero] at y3
              rw [hA] at y
              have y4 : ib < wr.heap.size := by have := hI.hB; omega
              have HIN := Lib.hid hin
              have HAA := Lib.hid hA
              clear hcells hin hA
              by_cases hlt : (k : Int) < s0.length
              · go_upto_block 4 with (fail)
                go_cut [] (fun wx => ∃ (vo : Value) (r' : RuleD), RuleI N0 m w0 (w.heap.size + 1) wc.heap.size wx vb (.slice A 1 1) va vo (.slice none 0 0) r' ∧ r'.inn = r.inn ∧ r'.out.length ≤ k + 1)
                case first =>
                  clear y y2 y3 y4
                  have hId := hI.drew
                  obtain ⟨Ao, co, rfl, _⟩ := hI.out.form
                  have hS : wr.drew.cell? ⟨w.heap.size + 1, 3, none⟩ = some (.slice Ao r'.out.length co) := by rw [hId.box.cell]; rfl
                  go_wp2_with fail
                  refine wp_region_seq (fun i => !([4, 5, 6, 8] : List Nat).contains i) (fun i => ([1] : List Nat).contains i) (fun i => ([4, 5] : List Nat).contains i) [0, 1, 2, 3, 4, 5, 6, 7, 8] (fun w' => w'.cell? ⟨w.heap.size + 1, 3, none⟩ = some (.slice Ao r'.out.length co)) (by kernel_rfl) (by kernel_rfl) (by kernel_rfl) (by kernel_rfl) ?_
                  refine wpSeq_pure (v := _) rfl rfl rfl (by kernel_rfl) (fun _ _ _ h => h) (fun wq => by first | (go_simp; done) | (go_simp; rfl)) ?_
                  refine wpSeq_load (v := _) rfl rfl (by kernel_rfl) (fun _ _ _ h => h) hS rfl (fun wq hq => by (try dsimp only at hq); first | (go_simp; done) | (go_simp; rfl)) ?_
                  refine wpSeq_pure (v := _) rfl rfl rfl (by kernel_rfl) (fun _ _ _ h => h) (fun wq => by first | (go_simp; done) | (go_simp; rfl)) ?_
                  refine wpSeq_pure (v := _) rfl rfl rfl (by kernel_rfl) (fun _ _ _ h => h) (fun wq => by first | (go_simp; done) | (go_simp; rfl)) ?_
                  refine wpSeq_heavy rfl rfl (fun K hK => ?_); go_simp
                  refine (mkNext_any _ m _ hId.hmk (by omega) (by omega)).mono ?_
                  rintro e w5 ⟨x, hx0, hx1, rfl, hmk5, hfr5, -⟩
                  have hI5 := hId.next hmk5 hfr5
                  dsimp only
                  refine hK _ _ (fun _ => by rw [hI5.box.cell]; rfl) ?_; clear hK K
                  refine wpSeq_heavy rfl rfl (fun K hK => ?_); go_simp
                  have hI5a := hI5.alloc (.cells #[.int .i64 x] 3)
                  refine hK _ _ (fun _ => by rw [hI5a.box.cell]; rfl) ?_; clear hK K
                  refine wpSeq_heavy rfl rfl (fun K hK => ?_)
                  refine step_push _ rfl (.tmp 98) (.tmp 102) _ rfl (Repr.int (N0 := N0)) wc.heap.size 3 i2 _ 8 Try.underlying30 li lz0 lz1 lz2 rfl (show 0 < 1 by decide) (by simp [Repr.int]) (by have := hI.hB; have := hI.hM; omega) (.slice Ao r'.out.length co) r'.out rfl hI5a.out w5.heap.size [_] x rfl (Blk.new _ _ _) ⟨rfl, (by unfold I64; omega)⟩ (by unfold maxLen; omega) (by omega) hI5a.hB.2 ?_
                  intro A6 c6 w6 hown6 hg6
                  obtain ⟨hb6, hI6⟩ := hI5a.pushOut hown6 hg6
                  have b0 := hb6.cell 3
                  have b1 := hb6.frozen 3
                  have b2 := hb6.lt
                  simp only [List.getElem?_toArray, List.getElem?_cons_succ, List.getElem?_cons_zero] at b0
                  refine hK _ _ (fun h => by cases h) ?_; clear hK K
                  refine wpSeq_pure (v := _) rfl rfl rfl (by kernel_rfl) (fun _ _ _ h => h) (fun wq => by first | (go_simp; done) | (go_simp; rfl)) ?_
                  refine wpSeq_heavy rfl rfl (fun K hK => ?_); go_simp
                  refine hK _ _ (fun h => by cases h) ?_; clear hK K
                  refine wpSeq_end ?_
                  go_wp2_with fail
                  go_meet
                  exact ⟨_, _, hI6, HIN.out, by simp; omega⟩
                case rest =>
                  obtain ⟨vo, r', hI', hin', hol'⟩ := hcut
                  have HI' := Lib.hid hI'
                  have HIN' := Lib.hid hin'
                  clear hI' hin' y y3
                  go_wp2_with fail
                  go_roundw
                  case rel => exact ⟨k + 1, vo, r', by omega, by go_num, HI'.out, HIN'.out, hol'⟩
                  case measure => simp [intOf]; omega
              · go_wp2_with fail
                go_meet
                exact ⟨_, _, _, _, _, _, _, hI⟩
        · have n1 : (kind == 1) = false := by simp; omega
          have n5 : (kind == 5) = false := by simp; omega
          by_cases hk2 : kind = 2
          · subst hk2
            go_wp2_with fail
            refine (mkNext_any _ m _ HI.out.hmk (by omega) (by omega)).mono ?_
            rintro e w4 ⟨K, hK0, hK1, rfl, hmk4, hfr4, -⟩
            have hI4 := HI.out.next hmk4 hfr4
            have h0 : ∃ (k : Nat) (vo : Value) (r' : RuleD), k ≤ K.toNat ∧ Value.int .i64 0 = .int .i64 k ∧ RuleI N0 m w0 (w.heap.size + 1) wc.heap.size w4 vb (.slice A 1 1) va vo (.slice none 0 0) r' ∧ r'.inn = r.inn ∧ r'.out.length ≤ k := ⟨0, _, r, by omega, rfl, hI4, rfl, by rw [HO.out]; simp⟩
            have H0 := Lib.hid h0
            clear h0 hI4 hmk4 hfr4
            go_wp2_with fail
            go_loopw [11] (fun i wr => ∃ (k : Nat) (vo : Value) (r' : RuleD), k ≤ K.toNat ∧ i = .int .i64 k ∧ RuleI N0 m w0 (w.heap.size + 1) wc.heap.size wr vb (.slice A 1 1) va vo (.slice none 0 0) r' ∧ r'.inn = r.inn ∧ r'.out.length ≤ k) (fun i _ => K.toNat - (intOf i).toNat)
            case atStart => exact H0.out
            case round =>
              obtain ⟨k, vo, r', hk, rfl, hI, hin, hol⟩ := hrel
              have HIN := Lib.hid hin
              clear hin
              by_cases hlt : (k : Int) < K
              · go_upto_block 6 with (fail)
                go_cut [] (fun wx => ∃ (vo : Value) (r' : RuleD), RuleI N0 m w0 (w.heap.size + 1) wc.heap.size wx vb (.slice A 1 1) va vo (.slice none 0 0) r' ∧ r'.inn = r.inn ∧ r'.out.length ≤ k + 1)
                case first =>
                  have hId := hI.drew
                  obtain ⟨Ao, co, rfl, _⟩ := hI.out.form
                  have hS : wr.drew.cell? ⟨w.heap.size + 1, 3, none⟩ = some (.slice Ao r'.out.length co) := by rw [hId.box.cell]; rfl
                  go_wp2_with fail
                  refine wp_region_seq (fun i => !([4, 5, 6, 8] : List Nat).contains i) (fun i => ([1] : List Nat).contains i) (fun i => ([4, 5] : List Nat).contains i) [0, 1, 2, 3, 4, 5, 6, 7, 8] (fun w' => w'.cell? ⟨w.heap.size + 1, 3, none⟩ = some (.slice Ao r'.out.length co)) (by kernel_rfl) (by kernel_rfl) (by kernel_rfl) (by kernel_rfl) ?_
                  refine wpSeq_pure (v := _) rfl rfl rfl (by kernel_rfl) (fun _ _ _ h => h) (fun wq => by first | (go_simp; done) | (go_simp; rfl)) ?_
                  refine wpSeq_load (v := _) rfl rfl (by kernel_rfl) (fun _ _ _ h => h) hS rfl (fun wq hq => by (try dsimp only at hq); first | (go_simp; done) | (go_simp; rfl)) ?_
                  refine wpSeq_pure (v := _) rfl rfl rfl (by kernel_rfl) (fun _ _ _ h => h) (fun wq => by first | (go_simp; done) | (go_simp; rfl)) ?_
                  refine wpSeq_pure (v := _) rfl rfl rfl (by kernel_rfl) (fun _ _ _ h => h) (fun wq => by first | (go_simp; done) | (go_simp; rfl)) ?_
                  refine wpSeq_heavy rfl rfl (fun K hK => ?_); go_simp
                  refine (mkNext_any _ m _ hId.hmk (by omega) (by omega)).mono ?_
                  rintro e w5 ⟨x, hx0, hx1, rfl, hmk5, hfr5, -⟩
                  have hI5 := hId.next hmk5 hfr5
                  dsimp only
                  refine hK _ _ (fun _ => by rw [hI5.box.cell]; rfl) ?_; clear hK K
                  refine wpSeq_heavy rfl rfl (fun K hK => ?_); go_simp
                  have hI5a := hI5.alloc (.cells #[.int .i64 x] 3)
                  refine hK _ _ (fun _ => by rw [hI5a.box.cell]; rfl) ?_; clear hK K
                  refine wpSeq_heavy rfl rfl (fun K hK => ?_)
                  refine step_push _ rfl (.tmp 115) (.tmp 119) _ rfl (Repr.int (N0 := N0)) wc.heap.size 3 i2 _ 8 Try.underlying30 li lz0 lz1 lz2 rfl (show 0 < 1 by decide) (by simp [Repr.int]) (by have := hI.hB; have := hI.hM; omega) (.slice Ao r'.out.length co) r'.out rfl hI5a.out w5.heap.size [_] x rfl (Blk.new _ _ _) ⟨rfl, (by unfold I64; omega)⟩ (by unfold maxLen; omega) (by omega) hI5a.hB.2 ?_
                  intro A6 c6 w6 hown6 hg6
                  obtain ⟨hb6, hI6⟩ := hI5a.pushOut hown6 hg6
                  have b0 := hb6.cell 3
                  have b1 := hb6.frozen 3
                  have b2 := hb6.lt
                  simp only [List.getElem?_toArray, List.getElem?_cons_succ, List.getElem?_cons_zero] at b0
                  refine hK _ _ (fun h => by cases h) ?_; clear hK K
                  refine wpSeq_pure (v := _) rfl rfl rfl (by kernel_rfl) (fun _ _ _ h => h) (fun wq => by first | (go_simp; done) | (go_simp; rfl)) ?_
                  refine wpSeq_heavy rfl rfl (fun K hK => ?_); go_simp
                  refine hK _ _ (fun h => by cases h) ?_; clear hK K
                  refine wpSeq_end ?_
                  go_wp2_with fail
                  go_meet
                  exact ⟨_, _, hI6, HIN.out, by simp; omega⟩
                case rest =>
                  obtain ⟨vo, r', hI', hin', hol'⟩ := hcut
                  have HI' := Lib.hid hI'
                  have HIN' := Lib.hid hin'
                  clear hI' hin'
                  go_wp2_with fail
                  go_roundw
                  case rel => exact ⟨k + 1, vo, r', by omega, by go_num, HI'.out, HIN'.out, hol'⟩
                  case measure => simp [intOf]; omega
              · go_wp2_with fail
                go_meet
                exact ⟨_, _, _, _, _, _, _, hI⟩
          · have n2 : (kind == 2) = false := by simpa using hk2
            by_cases hk3 : kind = 3
            · subst hk3
              have hId := HI.out.drew
              have hS : wc.drew.cell? ⟨w.heap.size + 1, 1, none⟩ = some (.slice A 1 1) := by rw [hId.box.cell]; rfl
              go_wp2_with fail
              refine wp_region_seq (fun i => !([3, 4, 6] : List Nat).contains i) (fun i => ([1] : List Nat).contains i) (fun i => ([3] : List Nat).contains i) [0, 1, 2, 3, 4, 5, 6] (fun w' => w'.cell? ⟨w.heap.size + 1, 1, none⟩ = some (.slice A 1 1)) (by kernel_rfl) (by kernel_rfl) (by kernel_rfl) (by kernel_rfl) ?_
              refine wpSeq_pure (v := _) rfl rfl rfl (by kernel_rfl) (fun _ _ _ h => h) (fun wq => by first | (go_simp; done) | (go_simp; rfl)) ?_
              refine wpSeq_load (v := _) rfl rfl (by kernel_rfl) (fun _ _ _ h => h) hS rfl (fun wq hq => by (try dsimp only at hq); first | (go_simp; done) | (go_simp; rfl)) ?_
              refine wpSeq_pure (v := _) rfl rfl rfl (by kernel_rfl) (fun _ _ _ h => h) (fun wq => by first | (go_simp; done) | (go_simp; rfl)) ?_
              refine wpSeq_heavy rfl rfl (fun K hK => ?_); go_simp
              refine (row_any N0 m _ 2 gA gn gc hId.hmk hN HC.out hg0 hg1 (by omega) (by omega)).mono ?_
              rintro e w4 ⟨l4, A4, c4, rfl, f1, f2, hrow4, hl4, hmk4, hfr4⟩
              have hI4 := (hId.next hmk4 hfr4).adv HO.out HCS.out
              dsimp only
              refine hK _ _ (fun _ => by rw [hI4.box.cell]; rfl) ?_; clear hK K
              refine wpSeq_heavy rfl rfl (fun K hK => ?_)
              rw [if_pos (by kernel_rfl)]
              refine wp_push_full _ (.tmp 125) (.tmp 127) _ rfl (intsR N0) 30 i1 _ 24 Try.underlying136 ji jz0 jz1 jz2 rfl A 1 r.inn hl (by omega) rfl (rowsIR_at hI4.inn).2.2.2 A4 l4.length c4 l4 rfl rfl 30 hrow4 (by unfold maxLen; omega) (by omega) ?_
              intro A5 c5 w5 g1 g2 hrow5 hb5
              have hI5 := (hI4.below hb5).adv HO.out HCS.out
              have b0 := hI5.box.cell 1
              have b1 := hI5.box.frozen 1
              have b2 := hI5.box.lt
              simp only [List.getElem?_toArray, List.getElem?_cons_succ, List.getElem?_cons_zero] at b0
              refine hK _ _ (fun h => by cases h) ?_; clear hK K
              refine wpSeq_pure (v := _) rfl rfl rfl (by kernel_rfl) (fun _ _ _ h => h) (fun wq => by first | (go_simp; done) | (go_simp; rfl)) ?_
              refine wpSeq_heavy rfl rfl (fun K hK => ?_); go_simp
              refine hK _ _ (fun h => by cases h) ?_; clear hK K
              refine wpSeq_end ?_
              have hI6 := hI5.set 1 (.slice A5 (1 + l4.length) c5) (r' := {r with inn := r.inn ++ l4}) rfl hI5.back ⟨_, _, by simp [hl], by simp [hl]; omega, g2, hrow5⟩ hI5.ahead hI5.out hI5.calls hI5.x
              generalize hw6 : w5.setCell _ _ = w6 at *
              have HI6 := Lib.hid hI6
              clear hw6 hI6 hI5 hb5 hI4 hId hrow5 hrow4 hmk4 hfr4 b0 b1 b2
              go_wp2_with fail
              refine (mkNext_any _ m _ HI6.out.hmk (by omega) (by omega)).mono ?_
              rintro e w7 ⟨x, hx0, hx1, rfl, hmk7, hfr7, -⟩
              have hI7 := HI6.out.next hmk7 hfr7
              have b0 := hI7.box.cell 3
              have b1 := hI7.box.frozen 3
              have b2 := hI7.box.lt
              simp only [List.getElem?_toArray, List.getElem?_cons_succ, List.getElem?_cons_zero] at b0
              have hI8 := (hI7.alloc (.cells #[.int .i64 x] 3)).set 3 (.slice (some ⟨w7.heap.size, 0, none⟩) 1 1) (r' := {r with inn := r.inn ++ l4, out := [x]}) rfl (hI7.alloc _).back (hI7.alloc _).inn (hI7.alloc _).ahead (OwnAt.one (cs := [_]) (Blk.new _ _ _) hI7.hB.2 ⟨rfl, (by unfold I64; omega)⟩) (hI7.alloc _).calls hI7.x
              rw [World.setCell_alloc_past _ _ _ _ b2] at hI8
              have HI8 := Lib.hid hI8
              clear hI7 hI8 hmk7 hfr7 HI6
              go_wp2_with fail
              go_meet
              exact ⟨_, _, _, _, _, _, _, HI8.out⟩
            · have n3 : (kind == 3) = false := by simpa using hk3
              have hId := HI.out.drew
              have hS : wc.drew.cell? ⟨w.heap.size + 1, 1, none⟩ = some (.slice A 1 1) := by rw [hId.box.cell]; rfl
              go_wp2_with fail
              refine wp_region_seq (fun i => !([3, 4, 6] : List Nat).contains i) (fun i => ([1] : List Nat).contains i) (fun i => ([3] : List Nat).contains i) [0, 1, 2, 3, 4, 5, 6] (fun w' => w'.cell? ⟨w.heap.size + 1, 1, none⟩ = some (.slice A 1 1)) (by kernel_rfl) (by kernel_rfl) (by kernel_rfl) (by kernel_rfl) ?_
              refine wpSeq_pure (v := _) rfl rfl rfl (by kernel_rfl) (fun _ _ _ h => h) (fun wq => by first | (go_simp; done) | (go_simp; rfl)) ?_
              refine wpSeq_load (v := _) rfl rfl (by kernel_rfl) (fun _ _ _ h => h) hS rfl (fun wq hq => by (try dsimp only at hq); first | (go_simp; done) | (go_simp; rfl)) ?_
              refine wpSeq_pure (v := _) rfl rfl rfl (by kernel_rfl) (fun _ _ _ h => h) (fun wq => by first | (go_simp; done) | (go_simp; rfl)) ?_
              refine wpSeq_heavy rfl rfl (fun K hK => ?_); go_simp
              refine (row_any N0 m _ 2 gA gn gc hId.hmk hN HC.out hg0 hg1 (by omega) (by omega)).mono ?_
              rintro e w4 ⟨l4, A4, c4, rfl, f1, f2, hrow4, hl4, hmk4, hfr4⟩
              have hI4 := (hId.next hmk4 hfr4).adv HO.out HCS.out
              dsimp only
              refine hK _ _ (fun _ => by rw [hI4.box.cell]; rfl) ?_; clear hK K
              refine wpSeq_heavy rfl rfl (fun K hK => ?_)
              rw [if_pos (by kernel_rfl)]
              refine wp_push_full _ (.tmp 50) (.tmp 52) _ rfl (intsR N0) 30 i1 _ 24 Try.underlying136 ji jz0 jz1 jz2 rfl A 1 r.inn hl (by omega) rfl (rowsIR_at hI4.inn).2.2.2 A4 l4.length c4 l4 rfl rfl 30 hrow4 (by unfold maxLen; omega) (by omega) ?_
              intro A5 c5 w5 g1 g2 hrow5 hb5
              have hI5 := (hI4.below hb5).adv HO.out HCS.out
              have b0 := hI5.box.cell 1
              have b1 := hI5.box.frozen 1
              have b2 := hI5.box.lt
              simp only [List.getElem?_toArray, List.getElem?_cons_succ, List.getElem?_cons_zero] at b0
              refine hK _ _ (fun h => by cases h) ?_; clear hK K
              refine wpSeq_pure (v := _) rfl rfl rfl (by kernel_rfl) (fun _ _ _ h => h) (fun wq => by first | (go_simp; done) | (go_simp; rfl)) ?_
              refine wpSeq_heavy rfl rfl (fun K hK => ?_); go_simp
              refine hK _ _ (fun h => by cases h) ?_; clear hK K
              refine wpSeq_end ?_
              have hI6 := hI5.set 1 (.slice A5 (1 + l4.length) c5) (r' := {r with inn := r.inn ++ l4}) rfl hI5.back ⟨_, _, by simp [hl], by simp [hl]; omega, g2, hrow5⟩ hI5.ahead hI5.out hI5.calls hI5.x
              generalize hw6 : w5.setCell _ _ = w6 at *
              have HI6 := Lib.hid (hI6.adv HO.out HCS.out)
              clear hw6 hI6 hI5 hb5 hI4 hId hrow5 hrow4 hmk4 hfr4 b0 b1 b2
              go_wp2_with fail
              refine (mkNext_any _ m _ HI6.out.hmk (by omega) (by omega)).mono ?_
              rintro e w7 ⟨K, hK0, hK1, rfl, hmk7, hfr7, -⟩
              have hI7 := HI6.out.next hmk7 hfr7
              have h0 : ∃ (k : Nat) (vc : Value) (r' : RuleD), k ≤ K.toNat ∧ Value.int .i64 0 = .int .i64 k ∧ RuleI N0 m w0 (w.heap.size + 1) w6.heap.size w7 vb (.slice A5 (1 + l4.length) c5) va (.slice none 0 0) vc r' ∧ r'.calls.length ≤ k := ⟨0, _, _, by omega, rfl, hI7, by simp only; rw [HCS.out]; simp⟩
              have H0 := Lib.hid h0
              clear h0 hI7 hmk7 hfr7
              have hl40 : l4.length ≤ 2 := by simpa using hl4
              go_wp2_with fail
              go_loopw [13] (fun i wr => ∃ (k : Nat) (vc : Value) (r' : RuleD), k ≤ K.toNat ∧ i = .int .i64 k ∧ RuleI N0 m w0 (w.heap.size + 1) w6.heap.size wr vb (.slice A5 (1 + l4.length) c5) va (.slice none 0 0) vc r' ∧ r'.calls.length ≤ k) (fun i _ => K.toNat - (intOf i).toNat)
              case atStart => exact H0.out
              case round =>
                obtain ⟨k, vc, r', hk, rfl, hI, hol⟩ := hrel
                by_cases hlt : (k : Int) < K
                · by_cases hcl0 : (0 : Int) < cl.length
                  · go_upto_block 2 with (fail)
                    go_cut [] (fun wx => ∃ (vc : Value) (r' : RuleD), RuleI N0 m w0 (w.heap.size + 1) w6.heap.size wx vb (.slice A5 (1 + l4.length) c5) va (.slice none 0 0) vc r' ∧ r'.calls.length ≤ k + 1)
                    case first =>
                      obtain ⟨Ak, ck, rfl, _⟩ := hI.calls.form
                      obtain ⟨x0, hx0⟩ : ∃ x0, cl[0]? = some x0 := ⟨_, List.getElem?_eq_getElem (by omega)⟩
                      obtain ⟨cb, co, cs0, hcA, hcb, _, _⟩ := HCL.out.get hx0
                      rw [hcA]
                      have hSC : ∀ W, FrM m.M w W → ∀ (j : Nat) (x : Int), cl[j]? = some x → W.cell? ⟨cb, co + j, none⟩ = some (.int .i64 x) ∧ I64 x := by
                        intro W hf j x hj
                        obtain ⟨cb', co', cs', hcA', _, ⟨rfl, hx⟩, hcell⟩ := (HCL.out.fr hf HBM.out (by simp [Repr.int]) hN).get hj
                        rw [hcA] at hcA'
                        simp only [Option.some.injEq, Addr.mk.injEq, and_true] at hcA'
                        obtain ⟨rfl, rfl⟩ := hcA'
                        have := hcell 0 _ rfl
                        exact ⟨by simpa [Repr.int] using this, hx⟩
                      have HSC := Lib.hid hSC
                      have hId := hI.drew
                      have hS : (fun w' => w'.cell? ⟨w.heap.size + 1, 4, none⟩ = some (.slice Ak r'.calls.length ck) ∧ w'.cell? ⟨w.heap.size + 1, 1, none⟩ = some (.slice A5 (1 + l4.length) c5) ∧ ∀ (j : Nat) (x : Int), cl[j]? = some x → w'.cell? ⟨cb, co + j, none⟩ = some (.int .i64 x)) wr.drew := ⟨by rw [hId.box.cell]; rfl, by rw [hId.box.cell]; rfl, fun j x hj => (HSC.out _ (hfw.trans hId.fr) j x hj).1⟩
                      have hni : (0 : Int) ≤ ((1 + l4.length : Nat) : Int) := by omega
                      clear hSC hx0
                      go_wp2_with fail
                      refine wp_region_seq (fun i => !([6, 11, 15, 16, 18] : List Nat).contains i) (fun i => ([1, 4, 13] : List Nat).contains i) (fun i => ([6, 11, 15, 16] : List Nat).contains i) [0, 1, 2, 3, 4, 5, 7, 8, 9, 10, 6, 11, 12, 13, 14, 15, 16, 17, 18] (fun w' => w'.cell? ⟨w.heap.size + 1, 4, none⟩ = some (.slice Ak r'.calls.length ck) ∧ w'.cell? ⟨w.heap.size + 1, 1, none⟩ = some (.slice A5 (1 + l4.length) c5) ∧ ∀ (j : Nat) (x : Int), cl[j]? = some x → w'.cell? ⟨cb, co + j, none⟩ = some (.int .i64 x)) (by kernel_rfl) (by kernel_rfl) (by kernel_rfl) (by kernel_rfl) ?_
                      refine wpSeq_pure (v := _) rfl rfl rfl (by kernel_rfl) (fun _ _ _ h => h) (fun wq => by first | (go_simp; done) | (go_simp; rfl)) ?_
                      refine wpSeq_load (v := _) rfl rfl (by kernel_rfl) (fun _ _ _ h => h) hS rfl (fun wq hq => by obtain ⟨q1, _, _⟩ := hq; first | (go_simp; done) | (go_simp; rfl)) ?_
                      refine wpSeq_pure (v := _) rfl rfl rfl (by kernel_rfl) (fun _ _ _ h => h) (fun wq => by first | (go_simp; done) | (go_simp; rfl)) ?_
                      refine wpSeq_pure (v := _) rfl rfl rfl (by kernel_rfl) (fun _ _ _ h => h) (fun wq => by first | (go_simp; done) | (go_simp; rfl)) ?_
                      refine wpSeq_load (v := _) rfl rfl (by kernel_rfl) (fun _ _ _ h => h) hS rfl (fun wq hq => by obtain ⟨_, q1, _⟩ := hq; first | (go_simp; done) | (go_simp; rfl)) ?_
                      refine wpSeq_pure (v := _) rfl rfl rfl (by kernel_rfl) (fun _ _ _ h => h) (fun wq => by first | (go_simp; done) | (go_simp; rfl)) ?_
                      refine wpSeq_pure (v := _) rfl rfl rfl (by kernel_rfl) (fun _ _ _ h => h) (fun wq => by first | (go_simp; done) | (go_simp; rfl)) ?_
                      refine wpSeq_pure (v := _) rfl rfl rfl (by kernel_rfl) (fun _ _ _ h => h) (fun wq => by first | (go_simp; done) | (go_simp; rfl)) ?_
                      refine wpSeq_pure (v := _) rfl rfl rfl (by kernel_rfl) (fun _ _ _ h => h) (fun wq => by first | (go_simp; done) | (go_simp; rfl)) ?_
                      refine wpSeq_pure (v := _) rfl rfl rfl (by kernel_rfl) (fun _ _ _ h => h) (fun wq => by first | (go_simp; done) | (go_simp; rfl)) ?_
                      refine wpSeq_heavy rfl rfl (fun K hK => ?_); go_simp
                      refine (mkNext_any _ m _ hId.hmk (by omega) (by omega)).mono ?_
                      rintro e wa ⟨x, hx0, hx1, rfl, hmka, hfra, -⟩
                      have hIa := hId.next hmka hfra
                      dsimp only
                      refine hK _ _ (fun _ => ⟨by rw [hIa.box.cell]; rfl, by rw [hIa.box.cell]; rfl, fun j x hj => (HSC.out _ (hfw.trans hIa.fr) j x hj).1⟩) ?_; clear hK K
                      refine wpSeq_heavy rfl rfl (fun K hK => ?_); go_simp
                      refine (mkNext_any _ m _ hIa.hmk (by omega) (by omega)).mono ?_
                      rintro e wb ⟨y, hy0, hy1, rfl, hmkb, hfrb, -⟩
                      have hIb := hIa.next hmkb hfrb
                      obtain ⟨yn, rfl⟩ := Int.eq_ofNat_of_zero_le hy0
                      obtain ⟨z, hz9⟩ : ∃ z, cl[yn]? = some z := ⟨_, List.getElem?_eq_getElem (by omega)⟩
                      have hzi := (HSC.out _ (hfw.trans hIb.fr) yn z hz9).2
                      have hS2 : (fun w' => w'.cell? ⟨w.heap.size + 1, 4, none⟩ = some (.slice Ak r'.calls.length ck) ∧ w'.cell? ⟨w.heap.size + 1, 1, none⟩ = some (.slice A5 (1 + l4.length) c5) ∧ ∀ (j : Nat) (x : Int), cl[j]? = some x → w'.cell? ⟨cb, co + j, none⟩ = some (.int .i64 x)) wb := ⟨by rw [hIb.box.cell]; rfl, by rw [hIb.box.cell]; rfl, fun j x hj => (HSC.out _ (hfw.trans hIb.fr) j x hj).1⟩
                      dsimp only
                      refine hK _ _ (fun _ => hS2) ?_; clear hK K
                      refine wpSeq_pure (v := _) rfl rfl rfl (by kernel_rfl) (fun _ _ _ h => h) (fun wq => by first | (go_simp; done) | (go_simp; rfl)) ?_
                      refine wpSeq_load (v := _) rfl rfl (by kernel_rfl) (fun _ _ _ h => h) hS2 rfl (fun wq hq => by obtain ⟨_, _, q3⟩ := hq; have q1 := q3 yn z hz9; clear q3; first | (go_simp; done) | (go_simp; rfl)) ?_
                      refine wpSeq_pure (v := _) rfl rfl rfl (by kernel_rfl) (fun _ _ _ h => h) (fun wq => by first | (go_simp; done) | (go_simp; rfl)) ?_
                      refine wpSeq_heavy rfl rfl (fun K hK => ?_); go_simp
                      have hIc := hIb.alloc (.cells #[.int .i64 x, .int .i64 z] 150)
                      refine hK _ _ (fun _ => ⟨by rw [hIc.box.cell]; rfl, by rw [hIc.box.cell]; rfl, fun j x hj => (HSC.out _ (hfw.trans hIc.fr) j x hj).1⟩) ?_; clear hK K
                      refine wpSeq_heavy rfl rfl (fun K hK => ?_)
                      refine step_push _ rfl (.tmp 68) (.tmp 82) _ rfl (callR N0) w6.heap.size 150 i3 _ 16 Try.underlying137 ki kz0 kz1 kz2 rfl (show 0 < 2 by decide) (by simp [callR, Repr.pair, Repr.int]) (by have := hI.hB; have := hI.hM; omega) (.slice Ak r'.calls.length ck) r'.calls rfl hIc.calls wb.heap.size [_, _] (x, z) rfl (Blk.new _ _ _) ⟨[_], [_], rfl, ⟨rfl, (by unfold I64; omega)⟩, rfl, hzi⟩ (by unfold maxLen; omega) (by omega) hIc.hB.2 ?_
                      intro A9 c9 w9 hown9 hg9
                      obtain ⟨hb9, hI9⟩ := hIc.pushCalls hown9 hg9
                      have hfr9 : FrM m.M w w9 := (hfw.trans hIc.fr).grownM hg9 fun g e => by have := (hIc.calls.block e).1; have := hI.hB; omega
                      have b0 := hb9.cell 4
                      have b1 := hb9.frozen 4
                      have b2 := hb9.lt
                      simp only [List.getElem?_toArray, List.getElem?_cons_succ, List.getElem?_cons_zero] at b0
                      refine hK _ _ (fun _ => ⟨by rw [hb9.cell]; rfl, by rw [hb9.cell]; rfl, fun j x hj => (HSC.out _ hfr9 j x hj).1⟩) ?_; clear hK K
                      refine wpSeq_pure (v := _) rfl rfl rfl (by kernel_rfl) (fun _ _ _ h => h) (fun wq => by first | (go_simp; done) | (go_simp; rfl)) ?_
                      refine wpSeq_heavy rfl rfl (fun K hK => ?_); go_simp
                      refine hK _ _ (fun h => by cases h) ?_; clear hK K
                      refine wpSeq_end ?_
                      go_wp2_with fail
                      rw [← hcA]
                      go_meet
                      exact ⟨_, _, hI9, by simp; omega⟩
                    case rest =>
                      obtain ⟨vc, r', hI', hol'⟩ := hcut
                      have HI' := Lib.hid hI'
                      clear hI'
                      go_wp2_with fail
                      go_roundw
                      case rel => exact ⟨k + 1, vc, r', by omega, by go_num, HI'.out, hol'⟩
                      case measure => simp [intOf]; omega
                  · go_wp2_with fail
                    go_meet
                    exact ⟨_, _, _, _, _, _, _, hI⟩
                · go_wp2_with fail
                  go_meet
                  exact ⟨_, _, _, _, _, _, _, hI⟩
      case rest =>
        obtain ⟨B1, vb, vi, va, vo, vc, r', hI8⟩ := hcut
        obtain ⟨Ab, nb, cb, rfl⟩ : ∃ Ab nb cb, vb = .slice Ab nb cb := by obtain ⟨A', c', e', _⟩ := hI8.back; exact ⟨A', _, c', by injection e'⟩
        obtain ⟨Ai, ni, ci, rfl⟩ : ∃ Ab nb cb, vi = .slice Ab nb cb := by obtain ⟨A', c', e', _⟩ := hI8.inn; exact ⟨A', _, c', by injection e'⟩
        obtain ⟨Aa, na, ca, rfl⟩ : ∃ Ab nb cb, va = .slice Ab nb cb := by obtain ⟨A', c', e', _⟩ := hI8.ahead; exact ⟨A', _, c', by injection e'⟩
        obtain ⟨Ao, co, rfl, _⟩ := hI8.out.form
        obtain ⟨Ak, ck, rfl, _⟩ := hI8.calls.form
        have y := hI8.box.cell
        have y2 := hI8.box.lt
        have hrb := hI8.fr.blk HRES.out (by omega)
        have q := hrb.cell
        have z := hrb.frozen
        have q2 := hrb.lt
        have hne : w.heap.size + 1 ≠ w.heap.size := by omega
        have hne2 : w.heap.size ≠ w.heap.size + 1 := by omega
        have HRB := Lib.hid hrb
        have HIF := Lib.hid hI8
        have HFF := Lib.hid (hfw.trans hI8.fr)
        clear hrb hI8
        go_wp2
        refine bodyPost_ret (v := .agg #[.slice Ab nb cb, .slice Ai ni ci, .slice Aa na ca, .slice Ao r'.out.length co, .slice Ak r'.calls.length ck, .int .i64 r'.x]) (by simp [results, Try.results53, go_sem, q]) rfl ?_
        exact rule_fin HIF.out HRB.out hMl HFF.out
end Go.Proofs.Ytnalbkjbidaojaa

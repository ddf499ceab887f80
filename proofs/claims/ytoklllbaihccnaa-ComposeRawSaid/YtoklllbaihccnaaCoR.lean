/- compose.Flat$1: how many points a glyph has, by what is known of its parts. Expanded from XCoR.src by expand.py. -/
import Derived.Test.YtoklllbaihccnaaCoQ
set_option linter.unusedVariables false
set_option linter.unusedSimpArgs false
namespace Go.Proofs.Ytoklllbaihccnaa
open Go.RowKit Go.Shelf
attribute [local go_sem] Oper.semAt_some
namespace Dp
def own (gl : List Gl) (g : Int) : Int := min ((gl[g.toNat]?.map fun x => (x.pts.length : Int)).getD 0) 1001
def addN (k : Int → Int) (m : Int) (p : Prt) : Int := min (m + k p.1) 1001
def many (gl : List Gl) (g : Int) (k : Int → Int) : Int := (partsOf gl g.toNat).foldl (addN k) (own gl g)
def manyOf (k : Int → Int) (o : Int) (l : List Prt) : Int := l.foldl (addN k) o
theorem manyOf_bd {k : Int → Int} (hk : ∀ x, 0 ≤ k x ∧ k x ≤ 1001) : ∀ (l : List Prt) (o : Int), 0 ≤ o ∧ o ≤ 1001 → 0 ≤ manyOf k o l ∧ manyOf k o l ≤ 1001
  | [], _, h => h
  | p :: l, o, h => manyOf_bd hk l _ (by have := hk p.1; unfold addN; omega)
theorem manyOf_snoc (k : Int → Int) (o : Int) (l : List Prt) (p : Prt) : manyOf k o (l ++ [p]) = min (manyOf k o l + k p.1) 1001 := by simp [manyOf, List.foldl_append, addN]
theorem own_bd (gl : List Gl) (g : Int) : 0 ≤ own gl g ∧ own gl g ≤ 1001 := by
  unfold own
  cases gl[g.toNat]? with
  | none => decide
  | some x => simp only [Option.map_some, Option.getD_some]; omega
theorem many_bd (gl : List Gl) : ∀ (n : Nat) (os : List Int), os.length = n → ∀ x, 0 ≤ learn (many gl) os x ∧ learn (many gl) os x ≤ 1001
  | 0, os, h, x => by
    have : os = [] := List.eq_nil_of_length_eq_zero h
    subst this
    simp [learn]
  | n + 1, os, h, x => by
    rcases List.eq_nil_or_concat os with rfl | ⟨l, g, rfl⟩
    · cases h
    · have hl : l.length = n := by simpa using h
      have ih := many_bd gl n l hl
      have e : l ++ [g] = l.concat g := by simp
      rw [← e] at *
      rw [learn_snoc]
      unfold upd
      split
      · exact manyOf_bd ih _ _ (own_bd gl g)
      · exact ih x
end Dp
/-- within a closure of Flat -/
structure FlJ (w : World) (M : Nat) (fv : Fv) (k : Int → Int) (o : Int) (pre : List Prt) (W : World) : Prop where
  kp : Kps w.heap.size w [(w.heap.size, 83, #[.map (some M)]), (w.heap.size + 1 + 1, 32, fv.cs)] W
  acc : Blk W (w.heap.size + 1) 3 #[.int .i64 (Dp.manyOf k o pre)]
set_option maxRecDepth 100000 in
set_option maxHeartbeats 4000000 in
theorem flat1_any (fv : Fv) (gl : List Gl) (g M X n0 : Nat) (k : Int → Int) (w : World) (hv : fv.n = gl.length) (hX : Blk w X 32 fv.cs) (hf : FAt w n0 fv.A gl) (hn : n0 ≤ w.heap.size) (hg : g < gl.length) (hM : CMap w M k) (hk : ∀ x, 0 ≤ k x ∧ k x ≤ 1001) :
    Calls Try.prog 32 #[.int .i64 g, .map (some M), .pointer (some ⟨X, 0, none⟩)] w fun e w' => e = .returned (.int .i64 (Dp.many gl g k)) ∧ Grow w w' := by
  have hfew := hf.few
  obtain ⟨fu, fA, fn, fc, d2, d3, d4, d5, d6, d7, d8⟩ := fv
  simp only at hf hv
  obtain ⟨gg, hgg⟩ : ∃ gg, gl[g]? = some gg := ⟨_, List.getElem?_eq_getElem hg⟩
  obtain ⟨b, off, pA, pc, eA, ec, hA, hb, hc3, -, hpc, -, -, -, ⟨hp1, -⟩, -⟩ := hf.outline hgg
  subst hA
  have hb' : b < w.heap.size := by omega
  have hown : Dp.own gl g = min (gg.pts.length : Int) 1001 := by simp [Dp.own, hgg]
  obtain ⟨pl, hpl⟩ : ∃ pl, pl = gg.pts.length := ⟨_, rfl⟩
  rw [← hpl] at hc3 hpc hp1 hown
  have HF := Lib.hid hf
  have HV := Lib.hid hv
  have HX := Lib.hid hX
  have HM := Lib.hid hM
  have HK := Lib.hid hk
  have x0 := hX.cell 0
  have x1 := hX.cell 1
  have x2 := hX.cell 2
  have x3 := hX.cell 3
  have x4 := hX.cell 4
  have x5 := hX.cell 5
  have x6 := hX.cell 6
  have x7 := hX.cell 7
  have x8 := hX.cell 8
  have lx := hX.lt
  simp only [List.getElem?_toArray, List.getElem?_cons_zero, List.getElem?_cons_succ] at x0 x1 x2 x3 x4 x5 x6 x7 x8
  have hgn : g < fn := by omega
  have hmn : (if (1001 : Int) < (pl : Int) then (1001 : Int) else (pl : Int)) = min (pl : Int) 1001 := by omega
  have HOWN := Lib.hid hown
  clear hf hv hX hM hk hown hpl hgg
  refine calls_of_marks Try.func32 rfl ?_
  simp only [Try.ntmps32, List.size_toArray, List.length_cons, List.length_nil, Nat.reduceAdd, Nat.reduceSub, Array.replicate_succ, Array.replicate_zero, List.push_toArray, List.append_toArray, List.nil_append, List.cons_append]
  go_wp2_with fail
  refine (parts_any ⟨fu, some ⟨b, off, none⟩, fn, fc, d2, d3, d4, d5, d6, d7, d8⟩ g _).mono ?_
  rintro e w' ⟨rfl, rfl⟩
  go_wp2_with fail
  obtain ⟨fv, hfv⟩ : ∃ fv : Fv, (⟨fu, some ⟨b, off, none⟩, fn, fc, d2, d3, d4, d5, d6, d7, d8⟩ : Fv) = fv := ⟨_, rfl⟩
  obtain ⟨o, ho⟩ : ∃ o, min (pl : Int) 1001 = o := ⟨_, rfl⟩
  rw [show Fv.cs ⟨fu, some ⟨b, off, none⟩, fn, fc, d2, d3, d4, d5, d6, d7, d8⟩ = fv.cs by rw [hfv]]
  obtain ⟨W1, hW1⟩ : ∃ W1, ((((w.alloc (.cells #[.map (some M)] 83)).alloc (.cells #[.int .i64 (min (pl : Int) 1001)] 3)).alloc (.cells fv.cs 32)).alloc (.cells #[.int .i64 g] 3)) = W1 := ⟨_, rfl⟩
  have hs1 : W1.heap.size = w.heap.size + 4 := by rw [← hW1]; simp
  have hg1 : Grow w W1 := by rw [← hW1]; exact ((((Fr.refl _ _).alloc _).alloc _).alloc _).alloc _
  have hJ1 : FlJ w M fv k o [] W1 := by
    rw [← hW1]
    refine ⟨⟨(((((Fr.refl (fun _ => False) w).alloc _).alloc _).alloc _).alloc _).below (Nat.le_refl _) (fun _ _ x => x), fun b hb => ?_⟩, ?_⟩
    · simp only [List.mem_cons, List.not_mem_nil, or_false] at hb
      rcases hb with rfl | rfl
      · exact (((Blk.new _ _ _).alloc _).alloc _).alloc _
      · exact (Blk.new_at _ _ _ (by simp)).alloc _
    · rw [ho]; exact ((Blk.new_at _ _ _ (by simp)).alloc _).alloc _
  have hX1 : Blk W1 (w.heap.size + 1 + 1) 32 fv.cs := hJ1.kp.blk (_, _, _) (by simp)
  have hY1 : Blk W1 (w.heap.size + 1 + 1 + 1) 3 #[.int .i64 g] := by rw [← hW1]; exact Blk.new_at _ _ _ (by simp)
  rw [hW1]
  have HS1 := Lib.hid hs1
  have HFV := Lib.hid hfv
  have HO := Lib.hid ho
  have hf0 : FAt w n0 fv.A gl := by rw [← hfv]; exact HF.out
  have hv0 : fv.n = gl.length := by rw [← hfv]; exact HV.out
  refine parts_loop w.heap.size (w.heap.size + 1 + 1) (w.heap.size + 1 + 1 + 1) fv gl g rfl hX1 hY1 hv0 (((hf0.more hn).keep fun p hp => (hg1.below (Nat.le_refl _)).cell hp)) (by omega) hg (FlJ w M fv k o)
    (fun pre W W' row h hg hr => ⟨h.kp.grown (by omega) h.kp.below.size hg hr, h.acc.keepC (grown_far hg hr).1⟩) hJ1
    (fun x pb => { tmps := #[.int .i64 g, .map (some M), .pointer (some ⟨X, 0, none⟩), undef, .pointer (some ⟨w.heap.size, 0, none⟩), .int .i64 0, .pointer (some ⟨w.heap.size + 1, 0, none⟩), .pointer (some ⟨pb, 0, none⟩), .pointer (some ⟨X, 1, none⟩), .slice (some ⟨b, off, none⟩) fn fc, .int .i64 g, .pointer (some ⟨b, off + g * 9, none⟩), .pointer (some ⟨b, off + g * 9 + 3, none⟩), .pointer (some ⟨b, off + g * 9 + 3, none⟩), .slice pA pl pc, .int .i64 pl, .int .i64 (min (pl : Int) 1001), .agg #[fu, .slice (some ⟨b, off, none⟩) fn fc, d2, d3, d4, d5, d6, d7, d8], .int .i64 g, .func (.func 53) #[] #[.pointer (some ⟨w.heap.size + 1 + 1, 0, none⟩), .pointer (some ⟨w.heap.size + 1 + 1 + 1, 0, none⟩)], pv x, undef, undef, undef, undef, undef, undef, undef, undef], defers := [] }) ?assign ?body (fun pre W h => h.kp.below.size) (fun pre W W' h hg => ⟨h.kp.grow h.kp.below.size hg, hg.blk h.acc (fun x => x)⟩) ?done
  case assign =>
    intro l x W K hK
    have HKK := Lib.hid hK
    clear hK hX1 hY1 hJ1 hW1 hs1 hg1 hfv ho hf0 hv0
    obtain ⟨xg, xx, xy⟩ := x
    unfold pv
    gi_wp2
    exact HKK.out
  case body =>
    rintro l pre ⟨pg, px, py⟩ pb W hl _ hxm hlen hJ hpb hXb
    have p0 := hpb.cell 0
    have a0 := hJ.acc.cell 0
    have m0 := (hJ.kp.blk _ List.mem_cons_self).cell 0
    have lp := hpb.lt
    have la := hJ.acc.lt
    have lm := (hJ.kp.blk _ List.mem_cons_self).lt
    have af := hJ.acc.frozen 0
    simp only [List.getElem?_toArray, List.getElem?_cons_zero] at p0 a0 m0
    have hpgi : I64 pg := by have := mem_psOf hxm; unfold I64; simp only at this; omega
    have hlk := (HM.out.keep (hJ.kp.below.block _ HM.out.lt)).look pg hpgi
    obtain ⟨ka, hka⟩ : ∃ ka, k pg = ka := ⟨_, rfl⟩
    rw [hka] at hlk
    have hkb := HK.out pg
    rw [hka] at hkb
    obtain ⟨ma, hma⟩ : ∃ ma, Dp.manyOf k o pre = ma := ⟨_, rfl⟩
    have hmb := Dp.manyOf_bd HK.out pre o (by rw [← HO.out]; omega)
    rw [hma] at hmb a0
    have HJ := Lib.hid hJ
    have HMA := Lib.hid hma
    have HKA := Lib.hid hka
    have hmx : (if (1001 : Int) < ma + ka then (1001 : Int) else ma + ka) = min (ma + ka) 1001 := by omega
    clear hX1 hY1 hJ1 hW1 hs1 hg1 hJ hpb hXb hma hka hfv ho hf0 hv0
    gi_wp2_with fail
    refine ⟨(KeepsOthers.setCell _ _ _).from _, ⟨⟨rfl, rfl, rfl, by simp, fun j hj => Below.heap_setCell _ _ _ _ (by simp only; omega)⟩, Below.heap_setCell _ _ _ _ (by simp)⟩, HJ.out.kp.setCell _ (by simp) (fun b hb => by simp only [List.mem_cons, List.not_mem_nil, or_false] at hb; rcases hb with rfl | rfl <;> simp) _, ?_⟩
    have := HJ.out.acc.set_ 0 (.int .i64 (min (ma + ka) 1001))
    rw [Dp.manyOf_snoc, HMA.out]
    simp only
    rw [HKA.out]
    exact this
  case done =>
    intro D W hD hJ hK3
    have a0 := hJ.acc.cell 0
    have la := hJ.acc.lt
    simp only [List.getElem?_toArray, List.getElem?_cons_zero] at a0
    have HJ := Lib.hid hJ
    have HK3 := Lib.hid hK3
    clear hX1 hY1 hJ1 hW1 hs1 hg1 hJ hK3 hfv ho hf0 hv0
    go_wp2_with fail
    show LeavesInM Fence.wide 8 Try.prog _ _ _ ([D].map mark) .returning W
    refine leaves_marks (B := D) [D] W ⟨by simp, fun E hE => by simp only [List.mem_singleton] at hE; subst hE; exact ⟨Nat.le_refl _, HK3.out⟩⟩ fun W' hW' => ?_
    have hB : Below w.heap.size w W' := HJ.out.kp.below.trans (hW'.below HJ.out.kp.below.size (fun k _ e => by simp only [List.mem_singleton] at e; have := HS1.out; omega))
    refine ⟨_, results_tmp rfl _ _ _, ?_, hB.os, hB.tape, hB.output, hB.size, fun j hj _ => hB.block j hj⟩
    have : Dp.many gl g k = Dp.manyOf k o (partsOf gl g) := by
      unfold Dp.many Dp.manyOf
      rw [HOWN.out, HO.out]
      rfl
    rw [this]
    rfl
end Go.Proofs.Ytoklllbaihccnaa

/- fleuronlaw04.awake is true. Expanded from XCpG.src by expand.py. -/
import Derived.Test.YtoklllbaihccnaaCpE
import Derived.Deep.CutBlock
set_option linter.unusedVariables false
set_option linter.unusedSimpArgs false
namespace Go.Proofs.Ytoklllbaihccnaa
open Go.RowKit Go.Shelf
namespace Aw
def gl1 : List Gl := [⟨[(1, 0, 0), (2, 0, 0)], [], []⟩, ⟨[(2, 0, 0)], [], []⟩, ⟨[], [], []⟩]
def gl2 : List Gl := [⟨[(1, 0, 0)], [], []⟩, ⟨[(1, 0, 0)], [], []⟩]
set_option maxRecDepth 100000 in
theorem all1 : Wk.all gl1 1 = [1, 2] := by decide +kernel
set_option maxRecDepth 100000 in
theorem down1 : (Dp.down gl1 0).2 = (2, 0) := by decide +kernel
set_option maxRecDepth 100000 in
theorem order1 : (Fo.order gl1).1 = [2, 1, 0] ∧ (Fo.order gl1).2.2 = 0 := by decide +kernel
set_option maxRecDepth 100000 in
theorem order2 : (Fo.order gl2).2 = (1, 33) := by decide +kernel
end Aw
/-- a font laid by hand: glyphs with parts alone -/
theorem fat_laid {W : World} {g : Nat} {cs : Array Value} {ds : List Gd} (hb : Blk W g 45 cs) (hc : cs.toList = ds.flatMap gcells)
    (hd : ∀ d ∈ ds, d.g.pts = [] ∧ d.g.ends = [] ∧ ∃ qA qc, d.qv = .slice qA d.g.parts.length qc ∧ d.g.parts.length ≤ qc ∧ Rd W 48 qA (prts d.g.parts) ∧ d.g.parts.length ≤ 1000 ∧ ∀ p ∈ d.g.parts, I64 p.1 ∧ I64 p.2.1 ∧ I64 p.2.2) (hl : ds.length ≤ 1000) :
    FAt W W.heap.size (some ⟨g, 0, none⟩) (ds.map Gd.g) := by
  refine ⟨⟨ds.map gcells, by simp, fun i g cs hg hc => ?_, ?_⟩, by simpa using hl⟩
  · rw [List.getElem?_map] at hg hc
    cases he : ds[i]? with
    | none => rw [he] at hg; cases hg
    | some d =>
      rw [he] at hg hc
      simp only [Option.map_some, Option.some.injEq] at hg hc
      subst hg
      subst hc
      obtain ⟨h1, h2, qA, qc, hq, hqc, hr, h3⟩ := hd d (List.mem_of_getElem? he)
      have hn : ∀ (size : Nat) (A : Option Addr), Reads W W.heap.size size A 0 [] := fun size A => ⟨by simp, fun h => absurd h (by omega)⟩
      refine ⟨⟨_, _, _, d.pA, d.pc, d.eA, d.ec, qA, qc, _, _, _, by rw [← hq], by rw [h1]; exact Nat.zero_le _, by rw [h2]; exact Nat.zero_le _, hqc, by rw [h1]; exact hn _ _, by rw [h2]; exact hn _ _, hr.reads (by rw [prts_len]) (by decide)⟩, by rw [h1]; exact ⟨by decide, by simp⟩, by rw [h2]; exact ⟨by decide, by simp⟩, h3⟩
  · have hr : Rd W 45 (some ⟨g, 0, none⟩) (ds.flatMap gcells) := .inr ⟨g, cs, rfl, hb, hc⟩
    have := hr.reads (n := ds.length) (size := 9) (flat9_len ds) (by decide)
    rw [List.length_map, ← List.flatMap_def]
    exact this
abbrev fvA (A : Option Addr) (n : Nat) : Fv := ⟨.int .i64 0, A, n, n, .slice none 0 0, .slice none 0 0, .slice none 0 0, .slice none 0 0, .slice none 0 0, .slice none 0 0, .slice none 0 0⟩
theorem fvA_one (A : Option Addr) (n : Nat) : (fvA A n).One := ⟨⟨_, rfl⟩, ⟨_, _, _, rfl⟩, ⟨_, _, _, rfl⟩, ⟨_, _, _, rfl⟩, ⟨_, _, _, rfl⟩, ⟨_, _, _, rfl⟩, ⟨_, _, _, rfl⟩, ⟨_, _, _, rfl⟩⟩
theorem prtok1 : ∀ p ∈ ([(1, 0, 0), (2, 0, 0)] : List Prt), I64 p.1 ∧ I64 p.2.1 ∧ I64 p.2.2 := by unfold I64; decide
theorem prtok2 : ∀ p ∈ ([(2, 0, 0)] : List Prt), I64 p.1 ∧ I64 p.2.1 ∧ I64 p.2.2 := by unfold I64; decide
theorem prtok3 : ∀ p ∈ ([(1, 0, 0)] : List Prt), I64 p.1 ∧ I64 p.2.1 ∧ I64 p.2.2 := by unfold I64; decide
theorem laid1 (w : World) (o : Obj) : FAt ((((w.alloc (.cells #[.int .i64 1, .int .i64 0, .int .i64 0, .int .i64 2, .int .i64 0, .int .i64 0] 48)).alloc (.cells #[.int .i64 2, .int .i64 0, .int .i64 0] 48)).alloc (.cells #[.string ⟨#[]⟩, .int .i64 0, .bool false, .slice none 0 0, .slice none 0 0, .slice (some ⟨w.heap.size, 0, none⟩) 2 2, .slice none 0 0, .slice none 0 0, .slice none 0 0, .string ⟨#[]⟩, .int .i64 0, .bool false, .slice none 0 0, .slice none 0 0, .slice (some ⟨w.heap.size + 1, 0, none⟩) 1 1, .slice none 0 0, .slice none 0 0, .slice none 0 0, .string ⟨#[]⟩, .int .i64 0, .bool false, .slice none 0 0, .slice none 0 0, .slice none 0 0, .slice none 0 0, .slice none 0 0, .slice none 0 0] 45)).alloc o) (w.heap.size + 4) (some ⟨w.heap.size + 1 + 1, 0, none⟩) Aw.gl1 := by
  have h := fat_laid (W := (((w.alloc (.cells #[.int .i64 1, .int .i64 0, .int .i64 0, .int .i64 2, .int .i64 0, .int .i64 0] 48)).alloc (.cells #[.int .i64 2, .int .i64 0, .int .i64 0] 48)).alloc (.cells #[.string ⟨#[]⟩, .int .i64 0, .bool false, .slice none 0 0, .slice none 0 0, .slice (some ⟨w.heap.size, 0, none⟩) 2 2, .slice none 0 0, .slice none 0 0, .slice none 0 0, .string ⟨#[]⟩, .int .i64 0, .bool false, .slice none 0 0, .slice none 0 0, .slice (some ⟨w.heap.size + 1, 0, none⟩) 1 1, .slice none 0 0, .slice none 0 0, .slice none 0 0, .string ⟨#[]⟩, .int .i64 0, .bool false, .slice none 0 0, .slice none 0 0, .slice none 0 0, .slice none 0 0, .slice none 0 0, .slice none 0 0] 45)).alloc o) (g := w.heap.size + 1 + 1)
    (ds := [⟨⟨[(1, 0, 0), (2, 0, 0)], [], []⟩, none, 0, none, 0, .slice (some ⟨w.heap.size, 0, none⟩) 2 2⟩, ⟨⟨[(2, 0, 0)], [], []⟩, none, 0, none, 0, .slice (some ⟨w.heap.size + 1, 0, none⟩) 1 1⟩, ⟨⟨[], [], []⟩, none, 0, none, 0, .slice none 0 0⟩])
    ((Blk.new_at _ _ _ (by simp only [World.size_alloc])).alloc o) rfl (fun d hd => ?_) (by simp)
  · simp only [World.size_alloc] at h; exact h
  · simp only [List.mem_cons, List.not_mem_nil, or_false] at hd
    rcases hd with rfl | rfl | rfl
    · exact ⟨rfl, rfl, _, _, rfl, Nat.le_refl _, .inr ⟨_, _, rfl, (((Blk.new _ _ _).alloc _).alloc _).alloc _, rfl⟩, by simp, prtok1⟩
    · exact ⟨rfl, rfl, _, _, rfl, Nat.le_refl _, .inr ⟨_, _, rfl, ((Blk.new_at _ _ _ (by simp only [World.size_alloc])).alloc _).alloc _, rfl⟩, by simp, prtok2⟩
    · exact ⟨rfl, rfl, _, _, rfl, Nat.le_refl _, .inl rfl, by simp, by simp⟩
theorem laid2 (w : World) (o : Obj) : FAt ((((w.alloc (.cells #[.int .i64 1, .int .i64 0, .int .i64 0] 48)).alloc (.cells #[.int .i64 1, .int .i64 0, .int .i64 0] 48)).alloc (.cells #[.string ⟨#[]⟩, .int .i64 0, .bool false, .slice none 0 0, .slice none 0 0, .slice (some ⟨w.heap.size, 0, none⟩) 1 1, .slice none 0 0, .slice none 0 0, .slice none 0 0, .string ⟨#[]⟩, .int .i64 0, .bool false, .slice none 0 0, .slice none 0 0, .slice (some ⟨w.heap.size + 1, 0, none⟩) 1 1, .slice none 0 0, .slice none 0 0, .slice none 0 0] 45)).alloc o) (w.heap.size + 4) (some ⟨w.heap.size + 1 + 1, 0, none⟩) Aw.gl2 := by
  have h := fat_laid (W := (((w.alloc (.cells #[.int .i64 1, .int .i64 0, .int .i64 0] 48)).alloc (.cells #[.int .i64 1, .int .i64 0, .int .i64 0] 48)).alloc (.cells #[.string ⟨#[]⟩, .int .i64 0, .bool false, .slice none 0 0, .slice none 0 0, .slice (some ⟨w.heap.size, 0, none⟩) 1 1, .slice none 0 0, .slice none 0 0, .slice none 0 0, .string ⟨#[]⟩, .int .i64 0, .bool false, .slice none 0 0, .slice none 0 0, .slice (some ⟨w.heap.size + 1, 0, none⟩) 1 1, .slice none 0 0, .slice none 0 0, .slice none 0 0] 45)).alloc o) (g := w.heap.size + 1 + 1)
    (ds := [⟨⟨[(1, 0, 0)], [], []⟩, none, 0, none, 0, .slice (some ⟨w.heap.size, 0, none⟩) 1 1⟩, ⟨⟨[(1, 0, 0)], [], []⟩, none, 0, none, 0, .slice (some ⟨w.heap.size + 1, 0, none⟩) 1 1⟩])
    ((Blk.new_at _ _ _ (by simp only [World.size_alloc])).alloc o) rfl (fun d hd => ?_) (by simp)
  · simp only [World.size_alloc] at h; exact h
  · simp only [List.mem_cons, List.not_mem_nil, or_false] at hd
    rcases hd with rfl | rfl
    · exact ⟨rfl, rfl, _, _, rfl, Nat.le_refl _, .inr ⟨_, _, rfl, (((Blk.new _ _ _).alloc _).alloc _).alloc _, rfl⟩, by simp, prtok3⟩
    · exact ⟨rfl, rfl, _, _, rfl, Nat.le_refl _, .inr ⟨_, _, rfl, ((Blk.new_at _ _ _ (by simp only [World.size_alloc])).alloc _).alloc _, rfl⟩, by simp, prtok3⟩
theorem laid1c (w : World) {f : Nat} {av : Array Value} {R : Ending → World → Prop} (h : ∀ W1 : World, FAt W1 W1.heap.size (some ⟨w.heap.size + 1 + 1, 0, none⟩) Aw.gl1 → Blk W1 (w.heap.size + 1 + 1 + 1) 32 (fvA (some ⟨w.heap.size + 1 + 1, 0, none⟩) 3).cs → Grow w W1 → W1.heap.size = w.heap.size + 4 → Calls Try.prog f av W1 R) : Calls Try.prog f av ((((w.alloc (.cells #[.int .i64 1, .int .i64 0, .int .i64 0, .int .i64 2, .int .i64 0, .int .i64 0] 48)).alloc (.cells #[.int .i64 2, .int .i64 0, .int .i64 0] 48)).alloc (.cells #[.string ⟨#[]⟩, .int .i64 0, .bool false, .slice none 0 0, .slice none 0 0, .slice (some ⟨w.heap.size, 0, none⟩) 2 2, .slice none 0 0, .slice none 0 0, .slice none 0 0, .string ⟨#[]⟩, .int .i64 0, .bool false, .slice none 0 0, .slice none 0 0, .slice (some ⟨w.heap.size + 1, 0, none⟩) 1 1, .slice none 0 0, .slice none 0 0, .slice none 0 0, .string ⟨#[]⟩, .int .i64 0, .bool false, .slice none 0 0, .slice none 0 0, .slice none 0 0, .slice none 0 0, .slice none 0 0, .slice none 0 0] 45)).alloc (.cells (fvA (some ⟨w.heap.size + 1 + 1, 0, none⟩) 3).cs 32)) R :=
  h _ (by simp only [World.size_alloc]; exact laid1 w _) (Blk.new_at _ _ _ (by simp only [World.size_alloc])) (((((Fr.refl _ _).alloc _).alloc _).alloc _).alloc _) (by simp only [World.size_alloc])
theorem laid2c (w : World) {f : Nat} {av : Array Value} {R : Ending → World → Prop} (h : ∀ W1 : World, FAt W1 W1.heap.size (some ⟨w.heap.size + 1 + 1, 0, none⟩) Aw.gl2 → Blk W1 (w.heap.size + 1 + 1 + 1) 32 (fvA (some ⟨w.heap.size + 1 + 1, 0, none⟩) 2).cs → Grow w W1 → W1.heap.size = w.heap.size + 4 → Calls Try.prog f av W1 R) : Calls Try.prog f av ((((w.alloc (.cells #[.int .i64 1, .int .i64 0, .int .i64 0] 48)).alloc (.cells #[.int .i64 1, .int .i64 0, .int .i64 0] 48)).alloc (.cells #[.string ⟨#[]⟩, .int .i64 0, .bool false, .slice none 0 0, .slice none 0 0, .slice (some ⟨w.heap.size, 0, none⟩) 1 1, .slice none 0 0, .slice none 0 0, .slice none 0 0, .string ⟨#[]⟩, .int .i64 0, .bool false, .slice none 0 0, .slice none 0 0, .slice (some ⟨w.heap.size + 1, 0, none⟩) 1 1, .slice none 0 0, .slice none 0 0, .slice none 0 0] 45)).alloc (.cells (fvA (some ⟨w.heap.size + 1 + 1, 0, none⟩) 2).cs 32)) R :=
  h _ (by simp only [World.size_alloc]; exact laid2 w _) (Blk.new_at _ _ _ (by simp only [World.size_alloc])) (((((Fr.refl _ _).alloc _).alloc _).alloc _).alloc _) (by simp only [World.size_alloc])
set_option maxRecDepth 100000 in
set_option maxHeartbeats 4000000 in
theorem awake_any (w : World) : Calls Try.prog 10 #[] w fun e w' => e = .returned (.bool true) ∧ Grow w w' := by
  go_enter Try.func10, Try.ntmps10
  go_wp2_with fail
  refine laid1c w fun W1 hf1 hX hG hS => ?_
  refine (order_any (fvA (some ⟨w.heap.size + 1 + 1, 0, none⟩) 3) Aw.gl1 W1 rfl hf1 (by decide) (fvA_one _ _)).mono ?_
  rintro e w2 ⟨tv, rfl, hown, hb⟩
  rw [Aw.order1.1] at hown
  rw [Aw.order1.2]
  obtain ⟨tA, tc, rfl, _⟩ := owns_form hown
  have hX2 := hX.below hb (by omega)
  have hs2 := hb.size
  have x0 := hX2.cell 0
  have x1 := hX2.cell 1
  have x2 := hX2.cell 2
  have x3 := hX2.cell 3
  have x4 := hX2.cell 4
  have x5 := hX2.cell 5
  have x6 := hX2.cell 6
  have x7 := hX2.cell 7
  have x8 := hX2.cell 8
  simp only [List.getElem?_toArray, List.getElem?_cons_zero, List.getElem?_cons_succ] at x0 x1 x2 x3 x4 x5 x6 x7 x8
  go_wp2_with fail
  clear x0 x1 x2 x3 x4 x5 x6 x7 x8
  refine (deep_any (fvA (some ⟨w.heap.size + 1 + 1, 0, none⟩) 3) Aw.gl1 0 w2 rfl ((hf1.below hb (Nat.le_refl _)).more hb.size) (by decide) (by unfold I64; decide) (fvA_one _ _)).mono ?_
  rintro e w3 ⟨rfl, hb3⟩
  rw [Aw.down1]
  have hX3 := hX2.below hb3 (by omega)
  have hs3 := hb3.size
  go_wp2_with fail
  refine laid2c w3 fun W4 hf4 hY hG4 hS4 => ?_
  refine (order_any (fvA (some ⟨w3.heap.size + 1 + 1, 0, none⟩) 2) Aw.gl2 W4 rfl hf4 (by decide) (fvA_one _ _)).mono ?_
  rintro e w5 ⟨tv, rfl, _, hb5⟩
  rw [Aw.order2]
  have hs5 := hb5.size
  go_wp2_with fail
  have hs4 : w3.heap.size + 4 = W4.heap.size := hS4.symm
  have ht5 : w5.ownsRow W1.heap.size 3 1 (.slice tA 3 tc) 3 (ints [2, 1, 0]) := owns_keep hown fun g e => by
    obtain ⟨_, gl, _⟩ := owns_block hown e
    rw [hb5.block g (by omega), hG4.block g (by omega) (fun x => x), hb3.block g gl]
  obtain ⟨w6, hw6⟩ : ∃ w6, w5.alloc (.cells #[.int .i64 2, .int .i64 1, .int .i64 0] 3) = w6 := ⟨_, rfl⟩
  have hr1 : Reads w6 w6.heap.size 1 (some ⟨w5.heap.size, 0, none⟩) 3 (ints [2, 1, 0]) := by
    rw [← hw6]
    exact Reads.blk (cs := ints [2, 1, 0]) (Blk.new _ _ _) 1 3 rfl
  have hr2 : Reads w6 w6.heap.size 1 tA 3 (ints [2, 1, 0]) := by
    rw [← hw6]
    exact Reads.of_own (owns_grow ht5 ((Fr.refl _ _).alloc _))
  have hg6 : Grow w5 w6 := by rw [← hw6]; exact (Fr.refl _ _).alloc _
  rw [hw6]
  clear hw6
  refine (nums4_any tA (some ⟨w5.heap.size, 0, none⟩) tc 3 _ _ [2, 1, 0] [2, 1, 0] w6 hr2 hr1 (by decide) (by decide)).mono ?_
  rintro e w7 ⟨rfl, hg7⟩
  rw [show decide (([2, 1, 0] : List Int) = [2, 1, 0]) = true from rfl]
  have hs6 := hg6.size
  have hs7 := hg7.size
  have hGA : Grow w w7 := by
    have k1 : Grow W1 w2 := Fr.of_below hb (fun k hk _ => hk)
    have k2 : Grow w2 w3 := Fr.of_below hb3 (fun k hk _ => hk)
    have k3 : Grow W4 w5 := Fr.of_below hb5 (fun k hk _ => hk)
    exact hG.trans (k1.trans (k2.trans (hG4.trans (k3.trans (hg6.trans hg7)))))
  have hX7 : Blk w7 (w.heap.size + 1 + 1 + 1) 32 (fvA (some ⟨w.heap.size + 1 + 1, 0, none⟩) 3).cs := by
    have k3 : Grow W4 w5 := Fr.of_below hb5 (fun k hk _ => hk)
    exact (hG4.trans (k3.trans (hg6.trans hg7))).blk hX3 fun x => x
  have hf7 : FAt w7 W1.heap.size (some ⟨w.heap.size + 1 + 1, 0, none⟩) Aw.gl1 := by
    have k1 : Grow W1 w2 := Fr.of_below hb (fun k hk _ => hk)
    have k2 : Grow w2 w3 := Fr.of_below hb3 (fun k hk _ => hk)
    have k3 : Grow W4 w5 := Fr.of_below hb5 (fun k hk _ => hk)
    have k : Grow W1 w7 := k1.trans (k2.trans (hG4.trans (k3.trans (hg6.trans hg7))))
    exact hf1.keep fun p hp => k.cell (p := p) hp (fun x => x)
  have x0 := hX7.cell 0
  have x1 := hX7.cell 1
  have x2 := hX7.cell 2
  have x3 := hX7.cell 3
  have x4 := hX7.cell 4
  have x5 := hX7.cell 5
  have x6 := hX7.cell 6
  have x7 := hX7.cell 7
  have x8 := hX7.cell 8
  simp only [List.getElem?_toArray, List.getElem?_cons_zero, List.getElem?_cons_succ] at x0 x1 x2 x3 x4 x5 x6 x7 x8
  go_wp2_with fail
  clear x0 x1 x2 x3 x4 x5 x6 x7 x8
  refine (all_any (fvA (some ⟨w.heap.size + 1 + 1, 0, none⟩) 3) Aw.gl1 1 w7 rfl (hf7.more (by omega)) (by decide) (by unfold I64; decide) (fvA_one _ _)).mono ?_
  rintro e w8 ⟨tv, rfl, hown8, hb8⟩
  rw [Aw.all1] at hown8
  obtain ⟨uA, uc, rfl, _⟩ := owns_form hown8
  go_wp2_with fail
  obtain ⟨w9, hw9⟩ : ∃ w9, w8.alloc (.cells #[.int .i64 1, .int .i64 2] 3) = w9 := ⟨_, rfl⟩
  have hr3 : Reads w9 w9.heap.size 1 (some ⟨w8.heap.size, 0, none⟩) 2 (ints [1, 2]) := by
    rw [← hw9]
    exact Reads.blk (cs := ints [1, 2]) (Blk.new _ _ _) 1 2 rfl
  have hr4 : Reads w9 w9.heap.size 1 uA 2 (ints [1, 2]) := by
    rw [← hw9]
    exact Reads.of_own (owns_grow hown8 ((Fr.refl _ _).alloc _))
  have hg9 : Grow w8 w9 := by rw [← hw9]; exact (Fr.refl _ _).alloc _
  rw [hw9]
  clear hw9
  refine (nums4_any uA (some ⟨w8.heap.size, 0, none⟩) uc 2 _ _ [1, 2] [1, 2] w9 hr4 hr3 (by decide) (by decide)).mono ?_
  rintro e w10 ⟨rfl, hg10⟩
  rw [show decide (([1, 2] : List Int) = [1, 2]) = true from rfl]
  have hGB : Grow w w10 := by
    have k4 : Grow w7 w8 := Fr.of_below hb8 (fun k hk _ => hk)
    exact hGA.trans (k4.trans (hg9.trans hg10))
  go_wp2_with fail
  go_ret
  exact ⟨rfl, hGB⟩
end Go.Proofs.Ytoklllbaihccnaa

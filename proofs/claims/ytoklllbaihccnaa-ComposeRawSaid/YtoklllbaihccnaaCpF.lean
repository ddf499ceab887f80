/- fleuronref04.Made: its contract. Expanded from XCpF.src by expand.py. -/
import Derived.Test.YtoklllbaihccnaaCpE
import Derived.Deep.CutBlock
set_option linter.unusedVariables false
set_option linter.unusedSimpArgs false
namespace Go.Proofs.Ytoklllbaihccnaa
open Go.RowKit Go.Shelf
theorem info_glyph : (Try.prog.info? 45).map (fun i => (i.zero, i.size, i.bytes)) = some (some (.agg #[.string ⟨#[]⟩, .int .i64 0, .bool false, .slice none 0 0, .slice none 0 0, .slice none 0 0, .slice none 0 0, .slice none 0 0, .slice none 0 0]), 9, 176) := by kernel_rfl
theorem info_part : (Try.prog.info? 48).map (fun i => (i.zero, i.size, i.bytes)) = some (some (.agg #[.int .i64 0, .int .i64 0, .int .i64 0]), 3, 24) := by kernel_rfl
theorem tdiv_bd {x d : Int} (h : I64 x) (hd : 0 < d) : -9223372036854775808 ≤ x.tdiv d ∧ x.tdiv d ≤ 9223372036854775807 := by
  unfold I64 at h
  by_cases hx : 0 ≤ x
  · rw [Int.tdiv_eq_ediv_of_nonneg hx]
    have h1 := Int.ediv_le_self d hx
    have h2 := Int.ediv_nonneg hx (Int.le_of_lt hd)
    omega
  · have e : x.tdiv d = -((-x).tdiv d) := by rw [Int.neg_tdiv]; omega
    rw [e, Int.tdiv_eq_ediv_of_nonneg (by omega)]
    have h1 := Int.ediv_le_self d (show 0 ≤ -x by omega)
    have h2 := Int.ediv_nonneg (show 0 ≤ -x by omega) (Int.le_of_lt hd)
    omega
theorem tdiv_in {x d : Int} (h : I64 x) (hd : 0 < d) : wrap64 (x.tdiv d) = x.tdiv d := IntWalk.wrap64_in _ (tdiv_bd h hd)
theorem tdiv_in' {x d : Int} (h : I64 x) (hd : 0 < d) : IntKind.i64.wrap (x.tdiv d) = x.tdiv d := IntWalk.i64_in _ (by have := tdiv_bd h hd; omega)
/-- what MkS.font reads, the result box aside -/
structure MkE (w W : World) (gv : Value) (ds : List Gd) (cs : Array Value) : Prop where
  row : W.ownsRow w.heap.size 45 9 gv ds.length (ds.flatMap gcells)
  pts : ∀ d ∈ ds, Rd W 59 d.pA (opts d.g.pts) ∧ d.g.pts.length ≤ d.pc ∧ Rd W 3 d.eA (ints d.g.ends) ∧ d.g.ends.length ≤ d.ec
  parts : ∀ d ∈ ds, W.ownsRow w.heap.size 48 3 d.qv d.g.parts.length (prts d.g.parts)
  gr : Grow w W
  res : Blk W w.heap.size 32 cs
theorem MkE.set {w W : World} {gv : Value} {ds : List Gd} {cs : Array Value} (h : MkE w W gv ds cs) (i : Nat) (u : Value) : MkE w (W.setCell ⟨w.heap.size, i, none⟩ u) gv ds (cs.setIfInBounds i u) :=
  ⟨owns_set h.row h.res (by decide) i u, fun d hd => by
    obtain ⟨a1, a2, a3, a4⟩ := h.pts d hd
    exact ⟨a1.keep fun b cs hb => hb.far (p := ⟨w.heap.size, i, none⟩) (hb.ne_ h.res (by decide)) u, a2, a3.keep fun b cs hb => hb.far (p := ⟨w.heap.size, i, none⟩) (hb.ne_ h.res (by decide)) u, a4⟩,
   fun d hd => owns_set (h.parts d hd) h.res (by decide) i u, h.gr.setCell (p := ⟨w.heap.size, i, none⟩) (.inr (Nat.le_refl _)) u, h.res.set_ i u⟩
theorem MkE.font {w W : World} {A : Option Addr} {c : Nat} {ds : List Gd} {cs : Array Value} (h : MkE w W (.slice A ds.length c) ds cs) (hpn : ∀ d ∈ ds, d.g.pts.length ≤ 1000000 ∧ (∀ p ∈ d.g.pts, I64 p.1 ∧ I64 p.2.1) ∧ d.g.ends.length ≤ 1000000 ∧ (∀ p ∈ d.g.ends, I64 p) ∧ d.g.parts.length ≤ 1000 ∧ ∀ p ∈ d.g.parts, I64 p.1 ∧ I64 p.2.1 ∧ I64 p.2.2) (hl : ds.length ≤ 1000) :
    FOne W W.heap.size A (ds.map Gd.g) := by
  refine ⟨⟨ds.map gcells, by simp, fun i g cs hg hc => ?_, ?_, fun cs hcs u hu => ?_⟩, by simpa using hl⟩
  · rw [List.getElem?_map] at hg hc
    cases hd : ds[i]? with
    | none => rw [hd] at hg; cases hg
    | some d =>
      rw [hd] at hg hc
      simp only [Option.map_some, Option.some.injEq] at hg hc
      subst hg
      subst hc
      have hdm := List.mem_of_getElem? hd
      obtain ⟨a1, a2, a3, a4⟩ := h.pts d hdm
      obtain ⟨b1, b2, b3, b4, b5, b6⟩ := hpn d hdm
      obtain ⟨qA, qc, hq, hqc, _⟩ := owns_form (h.parts d hdm)
      refine ⟨⟨_, _, _, d.pA, d.pc, d.eA, d.ec, qA, qc, _, _, _, by rw [← hq], a2, a4, hqc, a1.reads (by rw [opts_len]) (by decide), a3.reads (by rw [ints_len, Nat.mul_one]) (by decide), ?_⟩, ⟨b1, b2⟩, ⟨b3, b4⟩, ⟨b5, b6⟩⟩
      have := h.parts d hdm
      rw [hq] at this
      exact Reads.of_own this
  · have := Reads.of_own h.row
    rw [List.length_map, ← List.flatMap_def]
    exact this
  · obtain ⟨d, hd, rfl⟩ := List.mem_map.1 hcs
    obtain ⟨qA, qc, hq, _⟩ := owns_form (h.parts d hd)
    simp only [gcells, List.mem_cons, List.not_mem_nil, or_false] at hu
    rcases hu with rfl | rfl | rfl | rfl | rfl | rfl | rfl | rfl | rfl <;> first | rfl | (rw [hq]; rfl)
/-- the result box laid, Made's contract holds -/
theorem MkS.last {w wr : World} {fb nn j : Nat} {A : Option Addr} {c : Nat} {ds : List Gd} {s : List Int} {loops : Bool} (h : MkS w wr fb (.slice A ds.length c) ds) (hn : 1 ≤ nn ∧ nn ≤ 8) (hN : M4.num s = nn) (hds : ds.map Gd.g = M4.upto s nn loops (j - 1)) (hj : 1 ≤ j ∧ j ≤ 16) (he : ¬(j < s.length ∧ j < 16)) :
    ∃ w9, (((((((((wr.setCell ⟨w.heap.size, 0, none⟩ (.int .i64 0)).setCell ⟨w.heap.size, 1, none⟩ (.slice A ds.length c)).setCell ⟨w.heap.size, 2, none⟩ (.slice none 0 0)).setCell ⟨w.heap.size, 3, none⟩ (.slice none 0 0)).setCell ⟨w.heap.size, 4, none⟩ (.slice none 0 0)).setCell ⟨w.heap.size, 5, none⟩ (.slice none 0 0)).setCell ⟨w.heap.size, 6, none⟩ (.slice none 0 0)).setCell ⟨w.heap.size, 7, none⟩ (.slice none 0 0)).setCell ⟨w.heap.size, 8, none⟩ (.slice none 0 0)) = w9 ∧
      (∃ gA gc, Ending.returned (.agg (fontC (.slice A ds.length c))) = .returned (.agg (fontC (.slice gA (M4.made s loops).length gc))) ∧ FOne w9 w9.heap.size gA (M4.made s loops) ∧ Grow w w9) ∧ Blk w9 w.heap.size 32 (fontC (.slice A ds.length c)) := by
  have h0 : MkE w wr (.slice A ds.length c) ds (fontC (.slice none 0 0)) := ⟨h.row, h.pts, h.parts, h.gr, h.res⟩
  have h9 := ((((((((h0.set 0 (.int .i64 0)).set 1 (.slice A ds.length c)).set 2 (.slice none 0 0)).set 3 (.slice none 0 0)).set 4 (.slice none 0 0)).set 5 (.slice none 0 0)).set 6 (.slice none 0 0)).set 7 (.slice none 0 0)).set 8 (.slice none 0 0)
  have hm : ds.map Gd.g = M4.made s loops := by
    rw [hds]
    unfold M4.upto M4.made
    rw [hN]
    by_cases hj16 : j = 16
    · rw [hj16]
    · have hlen : (s.drop 1).length ≤ j - 1 := by rw [List.length_drop]; omega
      rw [List.take_of_length_le hlen, List.take_of_length_le (by omega)]
  have hlen : ds.length = (M4.made s loops).length := by rw [← hm, List.length_map]
  have hnl : ds.length = nn := by
    have h := congrArg List.length hds
    rw [M4.upto_len, List.length_map] at h
    exact h
  have hI : ∀ x : Int, -1000 ≤ x ∧ x ≤ 1000 → I64 x := fun x hx => by unfold I64; omega
  refine ⟨_, rfl, ⟨A, c, by rw [← hlen], ?_, h9.gr⟩, ?_⟩
  · rw [← hm]
    refine h9.font (fun d hd => ?_) (by omega)
    obtain ⟨b1, b2, b3, b4, b5, b6⟩ := M4.upto_ok (s := s) hn loops (j - 1) d.g (by rw [← hds]; exact List.mem_map_of_mem hd)
    exact ⟨by omega, fun p hp => ⟨hI _ (by have := b4 p hp; omega), hI _ (by have := b4 p hp; omega)⟩, by omega, fun p hp => hI _ (by have := b6 p hp; omega), by omega, fun p hp => ⟨hI _ (by have := b2 p hp; omega), hI _ (by have := b2 p hp; omega), hI _ (by have := b2 p hp; omega)⟩⟩
  · have := h9.res
    simpa [fontC] using this
set_option maxRecDepth 100000 in
set_option maxHeartbeats 40000000 in
theorem made_any (s : List Int) (loops : Bool) (A : Option Addr) (c B : Nat) (w : World) (hs : Reads w B 1 A s.length (ints s)) (hi : ∀ x ∈ s, I64 x) (hB : B ≤ w.heap.size) :
    Calls Try.prog 11 #[.slice A s.length c, .bool loops] w fun e w' => ∃ gA gc, e = .returned (.agg (fontC (.slice gA (M4.made s loops).length gc))) ∧ FOne w' w'.heap.size gA (M4.made s loops) ∧ Grow w w' := by
  obtain ⟨m, hm⟩ : ∃ m, m = s.length := ⟨_, rfl⟩
  rw [← hm] at hs ⊢
  have HS := Lib.hid hs
  have HI := Lib.hid hi
  have HM := Lib.hid hm
  clear hs hi hm
  by_cases h0 : m = 0
  · have H0 := Lib.hid h0
    have h00 : ¬ 0 < m := by omega
    clear h0
    go_enter Try.func11, Try.ntmps11
    go_wp2_with fail
    obtain ⟨nn, hnn⟩ : ∃ nn : Nat, nn = 1 := ⟨_, rfl⟩
    have hn8 : 1 ≤ nn ∧ nn ≤ 8 := by omega
    have HNUM := Lib.hid (show M4.num s = nn by
      cases s with
      | nil => exact hnn.symm
      | cons y l => have := HM.out; have := H0.out; simp at *; omega)
    clear h00
    have e1n : (1 : Int) = (nn : Int) := by omega
    conv => arg 4; rw [e1n]
    clear e1n
    have HN1 := Lib.hid hnn
    clear hnn
    go_loopw [7] (fun i wr => ∃ (k : Nat) (gv : Value) (ds : List Gd), k ≤ nn ∧ i = .int .i64 k ∧ MkS w wr (w.heap.size + 1) gv ds ∧ ds.map Gd.g = (List.range k).map M4.glyph) (fun i _ => nn - (intOf i).toNat)
    case atStart => exact ⟨0, .slice none 0 0, [], Nat.zero_le _, rfl, ⟨Blk.new_at _ _ _ (by simp), owns_nil _ _ _ _, fun _ h => (by cases h), fun _ h => (by cases h), fun _ _ _ _ _ h => (by simp at h), ((Fr.refl _ _).alloc _).alloc _, by omega, (Blk.new _ _ _).alloc _⟩, rfl⟩
    case round =>
      obtain ⟨k, gv, ds, hk, rfl, hM, hds⟩ := hrel
      have hdl : ds.length = k := by have := congrArg List.length hds; simpa using this
      obtain ⟨gA, gc, rfl, hgc, _⟩ := owns_form hM.row
      rw [hdl] at hgc hM
      have b1 := hM.box.cell 1
      have bf := hM.box.frozen 1
      have bl := hM.box.lt
      simp only [List.getElem?_toArray, List.getElem?_cons_zero, List.getElem?_cons_succ] at b1
      have HMK := Lib.hid hM
      have HRW := Lib.hid (show ∀ o1 o2 o3 o4 : Obj, ((((wr.alloc o1).alloc o2).alloc o3).alloc o4).ownsRow w.heap.size 45 9 (.slice gA k gc) k (ds.flatMap gcells) from fun o1 o2 o3 o4 => by
        have := (hM.grow (W' := (((wr.alloc o1).alloc o2).alloc o3).alloc o4) (((((Fr.refl _ _).alloc _).alloc _).alloc _).alloc _)).row
        rwa [hdl] at this)
      have HGR := Lib.hid (show ∀ o1 o2 o3 o4 : Obj, Grow wr ((((wr.alloc o1).alloc o2).alloc o3).alloc o4) from fun _ _ _ _ => ((((Fr.refl _ _).alloc _).alloc _).alloc _).alloc _)
      have HDS := Lib.hid hds
      have HDL := Lib.hid hdl
      have hsz := hM.gr.size
      obtain ⟨i1, hi0, hi1, hi2, hi3⟩ := info_m info_glyph
      have b1' : ∀ o1 o2 o3 : Obj, (((wr.alloc o1).alloc o2).alloc o3).cell? ⟨w.heap.size + 1, 1, none⟩ = some (.slice gA k gc) := fun o1 o2 o3 => by
        rw [World.cell?_alloc_lt _ _ _ (by simp; omega), World.cell?_alloc_lt _ _ _ (by simp; omega), World.cell?_alloc_lt _ _ _ bl]; exact b1
      clear hM hds hdl
      by_cases hlt : k < nn
      · by_cases hk3 : k % 3 = 2
        · have hkm : ((k : Int) % 3 == 2) = true := by simp; omega
          have HGL := Lib.hid (show M4.glyph k = ⟨[], [], []⟩ by unfold M4.glyph; rw [if_pos hk3])
          clear hk3
          obtain ⟨W5, hW5⟩ : ∃ W5, ((((wr.alloc (.cells #[.int .i64 k, .int .i64 1, .bool true, .int .i64 (10 * (k : Int)), .int .i64 2, .bool false] 59)).alloc (.cells #[.int .i64 1] 3)).alloc (.cells #[.string ⟨#[]⟩, .int .i64 0, .bool false, .slice none 0 0, .slice none 0 0, .slice none 0 0, .slice none 0 0, .slice none 0 0, .slice none 0 0] 45)).alloc (.cells #[.string ⟨#[]⟩, .int .i64 0, .bool false, .slice none 0 0, .slice none 0 0, .slice none 0 0, .slice none 0 0, .slice none 0 0, .slice none 0 0] 45)) = W5 := ⟨_, rfl⟩
          have hM5 : MkS w W5 (w.heap.size + 1) (.slice gA k gc) ds := by rw [← hW5]; exact HMK.out.grow (HGR.out _ _ _ _)
          have hR5 : Reads W5 W5.heap.size 9 (some ⟨wr.heap.size + 1 + 1 + 1, 0, none⟩) 1 (gcells (⟨⟨[], [], []⟩, none, 0, none, 0, .slice none 0 0⟩ : Gd)) := by
            rw [← hW5]
            exact Reads.blk (cs := gcells (⟨⟨[], [], []⟩, none, 0, none, 0, .slice none 0 0⟩ : Gd)) (Blk.new_at _ _ _ (by simp only [World.size_alloc])) 9 1 rfl
          have hO5 : ∀ u ∈ gcells (⟨⟨[], [], []⟩, none, 0, none, 0, .slice none 0 0⟩ : Gd), u.oneCell' = true := by
            intro u hu
            simp only [gcells, List.mem_cons, List.not_mem_nil, or_false] at hu
            rcases hu with rfl | rfl | rfl | rfl | rfl | rfl | rfl | rfl | rfl <;> rfl
          have hD5 : Rd W5 59 ((⟨⟨[], [], []⟩, none, 0, none, 0, .slice none 0 0⟩ : Gd)).pA (opts ((⟨⟨[], [], []⟩, none, 0, none, 0, .slice none 0 0⟩ : Gd)).g.pts) ∧ ((⟨⟨[], [], []⟩, none, 0, none, 0, .slice none 0 0⟩ : Gd)).g.pts.length ≤ ((⟨⟨[], [], []⟩, none, 0, none, 0, .slice none 0 0⟩ : Gd)).pc ∧ Rd W5 3 ((⟨⟨[], [], []⟩, none, 0, none, 0, .slice none 0 0⟩ : Gd)).eA (ints ((⟨⟨[], [], []⟩, none, 0, none, 0, .slice none 0 0⟩ : Gd)).g.ends) ∧ ((⟨⟨[], [], []⟩, none, 0, none, 0, .slice none 0 0⟩ : Gd)).g.ends.length ≤ ((⟨⟨[], [], []⟩, none, 0, none, 0, .slice none 0 0⟩ : Gd)).ec := by
            rw [← hW5]
            exact ⟨.inl rfl, Nat.le_refl _, .inl rfl, Nat.le_refl _⟩
          have hS5 : W5.heap.size = wr.heap.size + 4 := by rw [← hW5]; simp only [World.size_alloc]
          have hr5 := hM5.row
          rw [HDL.out] at hr5
          have HM5 := Lib.hid hM5
          have HR5 := Lib.hid hR5
          have HO5 := Lib.hid hO5
          have HD5 := Lib.hid hD5
          have HW5 := Lib.hid hW5
          have HS5 := Lib.hid hS5
          have HRR5 := Lib.hid hr5
          clear hM5 hR5 hO5 hD5 hW5 hS5 hr5
          go_wp2_with (at_builtin; go_loud (rw [HW5.out]); go_loud (refine wpList_append_any _ rfl (.tmp 40) (.tmp 42) _ rfl w.heap.size 45 i1 _ 9 176 Try.underlying24 hi0 hi1 hi2 hi3 rfl (show 0 < 9 by decide) (.slice gA k gc) k (ds.flatMap gcells) rfl HRR5.out _ _ 1 1 (gcells (⟨⟨[], [], []⟩, none, 0, none, 0, .slice none 0 0⟩ : Gd)) rfl HR5.out HO5.out (by unfold maxLen; omega) (by omega) (by have := HS5.out; omega) ?_); go_loud (intro v' w6 hrow hg hnew); go_loud (have HP := Lib.hid (MkS.glyph (d := (⟨⟨[], [], []⟩, none, 0, none, 0, .slice none 0 0⟩ : Gd)) (w6 := w6) (v' := v') HM5.out (by rw [HDL.out]; exact hrow) hg HD5.out ⟨rfl, rfl⟩)); go_loud (have t0 := HP.out.1.cell 1; have tf := HP.out.1.frozen 1; have tl := HP.out.1.lt; simp only [List.getElem?_toArray, List.getElem?_cons_zero, List.getElem?_cons_succ] at t0; have HGG := Lib.hid hg; obtain ⟨Av, cv, hve, _⟩ := owns_form hrow; subst hve; clear hrow hg hnew))
          go_roundw
          case rel => exact ⟨k + 1, _, ds ++ [(⟨⟨[], [], []⟩, none, 0, none, 0, .slice none 0 0⟩ : Gd)], by omega, by go_num, HP.out.2, by rw [List.map_append, HDS.out, List.range_succ, List.map_append, List.map_singleton, List.map_singleton, HGL.out]⟩
          case measure => simp [intOf]; omega
        · have hkm : ((k : Int) % 3 == 2) = false := by simp; omega
          have HGL := Lib.hid (show M4.glyph k = ⟨[], [((k : Int), 1, true), (10 * (k : Int), 2, false)], [1]⟩ by unfold M4.glyph; rw [if_neg hk3])
          clear hk3
          obtain ⟨W5, hW5⟩ : ∃ W5, ((((wr.alloc (.cells #[.int .i64 k, .int .i64 1, .bool true, .int .i64 (10 * (k : Int)), .int .i64 2, .bool false] 59)).alloc (.cells #[.int .i64 1] 3)).alloc (.cells #[.string ⟨#[]⟩, .int .i64 0, .bool false, .slice (some ⟨wr.heap.size, 0, none⟩) 2 2, .slice (some ⟨wr.heap.size + 1, 0, none⟩) 1 1, .slice none 0 0, .slice none 0 0, .slice none 0 0, .slice none 0 0] 45)).alloc (.cells #[.string ⟨#[]⟩, .int .i64 0, .bool false, .slice (some ⟨wr.heap.size, 0, none⟩) 2 2, .slice (some ⟨wr.heap.size + 1, 0, none⟩) 1 1, .slice none 0 0, .slice none 0 0, .slice none 0 0, .slice none 0 0] 45)) = W5 := ⟨_, rfl⟩
          have hM5 : MkS w W5 (w.heap.size + 1) (.slice gA k gc) ds := by rw [← hW5]; exact HMK.out.grow (HGR.out _ _ _ _)
          have hR5 : Reads W5 W5.heap.size 9 (some ⟨wr.heap.size + 1 + 1 + 1, 0, none⟩) 1 (gcells (⟨⟨[], [((k : Int), 1, true), (10 * (k : Int), 2, false)], [1]⟩, some ⟨wr.heap.size, 0, none⟩, 2, some ⟨wr.heap.size + 1, 0, none⟩, 1, .slice none 0 0⟩ : Gd)) := by
            rw [← hW5]
            exact Reads.blk (cs := gcells (⟨⟨[], [((k : Int), 1, true), (10 * (k : Int), 2, false)], [1]⟩, some ⟨wr.heap.size, 0, none⟩, 2, some ⟨wr.heap.size + 1, 0, none⟩, 1, .slice none 0 0⟩ : Gd)) (Blk.new_at _ _ _ (by simp only [World.size_alloc])) 9 1 rfl
          have hO5 : ∀ u ∈ gcells (⟨⟨[], [((k : Int), 1, true), (10 * (k : Int), 2, false)], [1]⟩, some ⟨wr.heap.size, 0, none⟩, 2, some ⟨wr.heap.size + 1, 0, none⟩, 1, .slice none 0 0⟩ : Gd), u.oneCell' = true := by
            intro u hu
            simp only [gcells, List.mem_cons, List.not_mem_nil, or_false] at hu
            rcases hu with rfl | rfl | rfl | rfl | rfl | rfl | rfl | rfl | rfl <;> rfl
          have hD5 : Rd W5 59 ((⟨⟨[], [((k : Int), 1, true), (10 * (k : Int), 2, false)], [1]⟩, some ⟨wr.heap.size, 0, none⟩, 2, some ⟨wr.heap.size + 1, 0, none⟩, 1, .slice none 0 0⟩ : Gd)).pA (opts ((⟨⟨[], [((k : Int), 1, true), (10 * (k : Int), 2, false)], [1]⟩, some ⟨wr.heap.size, 0, none⟩, 2, some ⟨wr.heap.size + 1, 0, none⟩, 1, .slice none 0 0⟩ : Gd)).g.pts) ∧ ((⟨⟨[], [((k : Int), 1, true), (10 * (k : Int), 2, false)], [1]⟩, some ⟨wr.heap.size, 0, none⟩, 2, some ⟨wr.heap.size + 1, 0, none⟩, 1, .slice none 0 0⟩ : Gd)).g.pts.length ≤ ((⟨⟨[], [((k : Int), 1, true), (10 * (k : Int), 2, false)], [1]⟩, some ⟨wr.heap.size, 0, none⟩, 2, some ⟨wr.heap.size + 1, 0, none⟩, 1, .slice none 0 0⟩ : Gd)).pc ∧ Rd W5 3 ((⟨⟨[], [((k : Int), 1, true), (10 * (k : Int), 2, false)], [1]⟩, some ⟨wr.heap.size, 0, none⟩, 2, some ⟨wr.heap.size + 1, 0, none⟩, 1, .slice none 0 0⟩ : Gd)).eA (ints ((⟨⟨[], [((k : Int), 1, true), (10 * (k : Int), 2, false)], [1]⟩, some ⟨wr.heap.size, 0, none⟩, 2, some ⟨wr.heap.size + 1, 0, none⟩, 1, .slice none 0 0⟩ : Gd)).g.ends) ∧ ((⟨⟨[], [((k : Int), 1, true), (10 * (k : Int), 2, false)], [1]⟩, some ⟨wr.heap.size, 0, none⟩, 2, some ⟨wr.heap.size + 1, 0, none⟩, 1, .slice none 0 0⟩ : Gd)).g.ends.length ≤ ((⟨⟨[], [((k : Int), 1, true), (10 * (k : Int), 2, false)], [1]⟩, some ⟨wr.heap.size, 0, none⟩, 2, some ⟨wr.heap.size + 1, 0, none⟩, 1, .slice none 0 0⟩ : Gd)).ec := by
            rw [← hW5]
            exact ⟨.inr ⟨_, _, rfl, ((((Blk.new _ _ _).alloc _).alloc _).alloc _), rfl⟩, Nat.le_refl _, .inr ⟨_, _, rfl, ((Blk.new_at _ _ _ (by simp only [World.size_alloc])).alloc _).alloc _, rfl⟩, Nat.le_refl _⟩
          have hS5 : W5.heap.size = wr.heap.size + 4 := by rw [← hW5]; simp only [World.size_alloc]
          have hr5 := hM5.row
          rw [HDL.out] at hr5
          have HM5 := Lib.hid hM5
          have HR5 := Lib.hid hR5
          have HO5 := Lib.hid hO5
          have HD5 := Lib.hid hD5
          have HW5 := Lib.hid hW5
          have HS5 := Lib.hid hS5
          have HRR5 := Lib.hid hr5
          clear hM5 hR5 hO5 hD5 hW5 hS5 hr5
          go_wp2_with (at_builtin; go_loud (rw [HW5.out]); go_loud (refine wpList_append_any _ rfl (.tmp 40) (.tmp 42) _ rfl w.heap.size 45 i1 _ 9 176 Try.underlying24 hi0 hi1 hi2 hi3 rfl (show 0 < 9 by decide) (.slice gA k gc) k (ds.flatMap gcells) rfl HRR5.out _ _ 1 1 (gcells (⟨⟨[], [((k : Int), 1, true), (10 * (k : Int), 2, false)], [1]⟩, some ⟨wr.heap.size, 0, none⟩, 2, some ⟨wr.heap.size + 1, 0, none⟩, 1, .slice none 0 0⟩ : Gd)) rfl HR5.out HO5.out (by unfold maxLen; omega) (by omega) (by have := HS5.out; omega) ?_); go_loud (intro v' w6 hrow hg hnew); go_loud (have HP := Lib.hid (MkS.glyph (d := (⟨⟨[], [((k : Int), 1, true), (10 * (k : Int), 2, false)], [1]⟩, some ⟨wr.heap.size, 0, none⟩, 2, some ⟨wr.heap.size + 1, 0, none⟩, 1, .slice none 0 0⟩ : Gd)) (w6 := w6) (v' := v') HM5.out (by rw [HDL.out]; exact hrow) hg HD5.out ⟨rfl, rfl⟩)); go_loud (have t0 := HP.out.1.cell 1; have tf := HP.out.1.frozen 1; have tl := HP.out.1.lt; simp only [List.getElem?_toArray, List.getElem?_cons_zero, List.getElem?_cons_succ] at t0; have HGG := Lib.hid hg; obtain ⟨Av, cv, hve, _⟩ := owns_form hrow; subst hve; clear hrow hg hnew))
          go_roundw
          case rel => exact ⟨k + 1, _, ds ++ [(⟨⟨[], [((k : Int), 1, true), (10 * (k : Int), 2, false)], [1]⟩, some ⟨wr.heap.size, 0, none⟩, 2, some ⟨wr.heap.size + 1, 0, none⟩, 1, .slice none 0 0⟩ : Gd)], by omega, by go_num, HP.out.2, by rw [List.map_append, HDS.out, List.range_succ, List.map_append, List.map_singleton, List.map_singleton, HGL.out]⟩
          case measure => simp [intOf]; omega
      · have hkn : nn = k := by omega
        subst hkn
        clear b1 b1' bf bl hgc HRW HGR hi0 hi1 hi2 hi3
        go_wp2_with fail
        go_loopw [9] (fun i wr => ∃ (j : Nat) (gv : Value) (ds : List Gd), 1 ≤ j ∧ j ≤ 16 ∧ i = .int .i64 j ∧ MkS w wr (w.heap.size + 1) gv ds ∧ ds.map Gd.g = M4.upto s nn loops (j - 1)) (fun i _ => 16 - (intOf i).toNat)
        case atStart => exact ⟨1, _, ds, Nat.le_refl _, by decide, by go_num, HMK.out, by rw [HDS.out]; rfl⟩
        case round =>
          obtain ⟨j, gv, ds2, hj1, hj16, rfl, hM2, hds2⟩ := hrel
          have HMK2 := Lib.hid hM2
          have HDS2 := Lib.hid hds2
          clear hM2 hds2
          by_cases hjm : j < m ∧ j < 16
          · exact absurd hjm.1 (by have := H0.out; omega)
          · obtain ⟨gA2, gc3, rfl, hgc3, _⟩ := owns_form HMK2.out.row
            have hbx := HMK2.out.box
            have hrx := HMK2.out.res
            have c0 := hbx.cell 0
            have c1 := hbx.cell 1
            have c2 := hbx.cell 2
            have c3 := hbx.cell 3
            have c4 := hbx.cell 4
            have c5 := hbx.cell 5
            have c6 := hbx.cell 6
            have c7 := hbx.cell 7
            have c8 := hbx.cell 8
            have r0 := hrx.cell 0
            have f0 := hrx.frozen 0
            have r1 := hrx.cell 1
            have f1 := hrx.frozen 1
            have r2 := hrx.cell 2
            have f2 := hrx.frozen 2
            have r3 := hrx.cell 3
            have f3 := hrx.frozen 3
            have r4 := hrx.cell 4
            have f4 := hrx.frozen 4
            have r5 := hrx.cell 5
            have f5 := hrx.frozen 5
            have r6 := hrx.cell 6
            have f6 := hrx.frozen 6
            have r7 := hrx.cell 7
            have f7 := hrx.frozen 7
            have r8 := hrx.cell 8
            have f8 := hrx.frozen 8
            have hrl := hrx.lt
            have hgs := HMK2.out.gr.size
            simp only [List.getElem?_toArray, List.getElem?_cons_zero, List.getElem?_cons_succ] at c0 c1 c2 c3 c4 c5 c6 c7 c8 r0 r1 r2 r3 r4 r5 r6 r7 r8
            clear hbx hrx
            have HRL := Lib.hid (show ∃ w9, _ from HMK2.out.last (s := s) (loops := loops) (j := j) hn8 HNUM.out HDS2.out ⟨hj1, hj16⟩ (by rw [← HM.out]; exact hjm))
            by_cases hjm2 : j < m
            · have hj2 : ¬ j < 16 := fun h => hjm ⟨hjm2, h⟩
              go_wp2_with fail
              obtain ⟨w9, hw9, hp9, hb9⟩ := HRL.out
              rw [hw9]
              have d0 := hb9.cell 0
              have d1 := hb9.cell 1
              have d2 := hb9.cell 2
              have d3 := hb9.cell 3
              have d4 := hb9.cell 4
              have d5 := hb9.cell 5
              have d6 := hb9.cell 6
              have d7 := hb9.cell 7
              have d8 := hb9.cell 8
              simp only [List.getElem?_toArray, List.getElem?_cons_zero, List.getElem?_cons_succ] at d0 d1 d2 d3 d4 d5 d6 d7 d8
              exact bodyPost_ret (v := .agg (fontC (.slice gA2 ds2.length gc3))) (by simp [results, Try.results11, go_sem, fontC, d0, d1, d2, d3, d4, d5, d6, d7, d8]) rfl hp9
            · go_wp2_with fail
              obtain ⟨w9, hw9, hp9, hb9⟩ := HRL.out
              rw [hw9]
              have d0 := hb9.cell 0
              have d1 := hb9.cell 1
              have d2 := hb9.cell 2
              have d3 := hb9.cell 3
              have d4 := hb9.cell 4
              have d5 := hb9.cell 5
              have d6 := hb9.cell 6
              have d7 := hb9.cell 7
              have d8 := hb9.cell 8
              simp only [List.getElem?_toArray, List.getElem?_cons_zero, List.getElem?_cons_succ] at d0 d1 d2 d3 d4 d5 d6 d7 d8
              exact bodyPost_ret (v := .agg (fontC (.slice gA2 ds2.length gc3))) (by simp [results, Try.results11, go_sem, fontC, d0, d1, d2, d3, d4, d5, d6, d7, d8]) rfl hp9
  · obtain ⟨b, off, rfl, hb, hcell⟩ := HS.out.at_ (by omega)
    obtain ⟨x0, hx0⟩ : ∃ x, s[0]? = some x := ⟨_, List.getElem?_eq_getElem (by have := HM.out; omega)⟩
    have z0 := hcell 0 _ (ints_at _ _ _ hx0)
    rw [Nat.add_zero] at z0
    have zl : b < w.heap.size := by omega
    have HX0 := Lib.hid hx0
    have HC := Lib.hid hcell
    clear hx0 hcell
    go_enter Try.func11, Try.ntmps11
    go_wp2_with (go_at_call 20; refine (rest4_any _ _ _ (by decide) (by decide)).mono ?_; rintro e w' ⟨rfl, rfl⟩)
    obtain ⟨nn, hnn⟩ : ∃ nn : Nat, (nn : Int) = 1 + x0 % 8 := ⟨(1 + x0 % 8).toNat, by omega⟩
    have hn8 : 1 ≤ nn ∧ nn ≤ 8 := by omega
    have HNN := Lib.hid hnn
    have HNUM := Lib.hid (show M4.num s = nn by
      cases s with
      | nil => cases HX0.out
      | cons y l =>
        have e : y = x0 := by simpa using HX0.out
        show (1 + y % 8).toNat = nn
        have := HNN.out
        rw [e]; omega)
    rw [← hnn]
    clear hnn
    go_loopw [7] (fun i wr => ∃ (k : Nat) (gv : Value) (ds : List Gd), k ≤ nn ∧ i = .int .i64 k ∧ MkS w wr (w.heap.size + 1) gv ds ∧ ds.map Gd.g = (List.range k).map M4.glyph) (fun i _ => nn - (intOf i).toNat)
    case atStart => exact ⟨0, .slice none 0 0, [], Nat.zero_le _, rfl, ⟨Blk.new_at _ _ _ (by simp), owns_nil _ _ _ _, fun _ h => (by cases h), fun _ h => (by cases h), fun _ _ _ _ _ h => (by simp at h), ((Fr.refl _ _).alloc _).alloc _, by omega, (Blk.new _ _ _).alloc _⟩, rfl⟩
    case round =>
      obtain ⟨k, gv, ds, hk, rfl, hM, hds⟩ := hrel
      have hdl : ds.length = k := by have := congrArg List.length hds; simpa using this
      obtain ⟨gA, gc, rfl, hgc, _⟩ := owns_form hM.row
      rw [hdl] at hgc hM
      have b1 := hM.box.cell 1
      have bf := hM.box.frozen 1
      have bl := hM.box.lt
      simp only [List.getElem?_toArray, List.getElem?_cons_zero, List.getElem?_cons_succ] at b1
      have HMK := Lib.hid hM
      have HRW := Lib.hid (show ∀ o1 o2 o3 o4 : Obj, ((((wr.alloc o1).alloc o2).alloc o3).alloc o4).ownsRow w.heap.size 45 9 (.slice gA k gc) k (ds.flatMap gcells) from fun o1 o2 o3 o4 => by
        have := (hM.grow (W' := (((wr.alloc o1).alloc o2).alloc o3).alloc o4) (((((Fr.refl _ _).alloc _).alloc _).alloc _).alloc _)).row
        rwa [hdl] at this)
      have HGR := Lib.hid (show ∀ o1 o2 o3 o4 : Obj, Grow wr ((((wr.alloc o1).alloc o2).alloc o3).alloc o4) from fun _ _ _ _ => ((((Fr.refl _ _).alloc _).alloc _).alloc _).alloc _)
      have HDS := Lib.hid hds
      have HDL := Lib.hid hdl
      have hsz := hM.gr.size
      obtain ⟨i1, hi0, hi1, hi2, hi3⟩ := info_m info_glyph
      have b1' : ∀ o1 o2 o3 : Obj, (((wr.alloc o1).alloc o2).alloc o3).cell? ⟨w.heap.size + 1, 1, none⟩ = some (.slice gA k gc) := fun o1 o2 o3 => by
        rw [World.cell?_alloc_lt _ _ _ (by simp; omega), World.cell?_alloc_lt _ _ _ (by simp; omega), World.cell?_alloc_lt _ _ _ bl]; exact b1
      clear hM hds hdl
      by_cases hlt : k < nn
      · by_cases hk3 : k % 3 = 2
        · have hkm : ((k : Int) % 3 == 2) = true := by simp; omega
          have HGL := Lib.hid (show M4.glyph k = ⟨[], [], []⟩ by unfold M4.glyph; rw [if_pos hk3])
          clear hk3
          obtain ⟨W5, hW5⟩ : ∃ W5, ((((wr.alloc (.cells #[.int .i64 k, .int .i64 1, .bool true, .int .i64 (10 * (k : Int)), .int .i64 2, .bool false] 59)).alloc (.cells #[.int .i64 1] 3)).alloc (.cells #[.string ⟨#[]⟩, .int .i64 0, .bool false, .slice none 0 0, .slice none 0 0, .slice none 0 0, .slice none 0 0, .slice none 0 0, .slice none 0 0] 45)).alloc (.cells #[.string ⟨#[]⟩, .int .i64 0, .bool false, .slice none 0 0, .slice none 0 0, .slice none 0 0, .slice none 0 0, .slice none 0 0, .slice none 0 0] 45)) = W5 := ⟨_, rfl⟩
          have hM5 : MkS w W5 (w.heap.size + 1) (.slice gA k gc) ds := by rw [← hW5]; exact HMK.out.grow (HGR.out _ _ _ _)
          have hR5 : Reads W5 W5.heap.size 9 (some ⟨wr.heap.size + 1 + 1 + 1, 0, none⟩) 1 (gcells (⟨⟨[], [], []⟩, none, 0, none, 0, .slice none 0 0⟩ : Gd)) := by
            rw [← hW5]
            exact Reads.blk (cs := gcells (⟨⟨[], [], []⟩, none, 0, none, 0, .slice none 0 0⟩ : Gd)) (Blk.new_at _ _ _ (by simp only [World.size_alloc])) 9 1 rfl
          have hO5 : ∀ u ∈ gcells (⟨⟨[], [], []⟩, none, 0, none, 0, .slice none 0 0⟩ : Gd), u.oneCell' = true := by
            intro u hu
            simp only [gcells, List.mem_cons, List.not_mem_nil, or_false] at hu
            rcases hu with rfl | rfl | rfl | rfl | rfl | rfl | rfl | rfl | rfl <;> rfl
          have hD5 : Rd W5 59 ((⟨⟨[], [], []⟩, none, 0, none, 0, .slice none 0 0⟩ : Gd)).pA (opts ((⟨⟨[], [], []⟩, none, 0, none, 0, .slice none 0 0⟩ : Gd)).g.pts) ∧ ((⟨⟨[], [], []⟩, none, 0, none, 0, .slice none 0 0⟩ : Gd)).g.pts.length ≤ ((⟨⟨[], [], []⟩, none, 0, none, 0, .slice none 0 0⟩ : Gd)).pc ∧ Rd W5 3 ((⟨⟨[], [], []⟩, none, 0, none, 0, .slice none 0 0⟩ : Gd)).eA (ints ((⟨⟨[], [], []⟩, none, 0, none, 0, .slice none 0 0⟩ : Gd)).g.ends) ∧ ((⟨⟨[], [], []⟩, none, 0, none, 0, .slice none 0 0⟩ : Gd)).g.ends.length ≤ ((⟨⟨[], [], []⟩, none, 0, none, 0, .slice none 0 0⟩ : Gd)).ec := by
            rw [← hW5]
            exact ⟨.inl rfl, Nat.le_refl _, .inl rfl, Nat.le_refl _⟩
          have hS5 : W5.heap.size = wr.heap.size + 4 := by rw [← hW5]; simp only [World.size_alloc]
          have hr5 := hM5.row
          rw [HDL.out] at hr5
          have HM5 := Lib.hid hM5
          have HR5 := Lib.hid hR5
          have HO5 := Lib.hid hO5
          have HD5 := Lib.hid hD5
          have HW5 := Lib.hid hW5
          have HS5 := Lib.hid hS5
          have HRR5 := Lib.hid hr5
          clear hM5 hR5 hO5 hD5 hW5 hS5 hr5
          go_wp2_with (at_builtin; go_loud (rw [HW5.out]); go_loud (refine wpList_append_any _ rfl (.tmp 40) (.tmp 42) _ rfl w.heap.size 45 i1 _ 9 176 Try.underlying24 hi0 hi1 hi2 hi3 rfl (show 0 < 9 by decide) (.slice gA k gc) k (ds.flatMap gcells) rfl HRR5.out _ _ 1 1 (gcells (⟨⟨[], [], []⟩, none, 0, none, 0, .slice none 0 0⟩ : Gd)) rfl HR5.out HO5.out (by unfold maxLen; omega) (by omega) (by have := HS5.out; omega) ?_); go_loud (intro v' w6 hrow hg hnew); go_loud (have HP := Lib.hid (MkS.glyph (d := (⟨⟨[], [], []⟩, none, 0, none, 0, .slice none 0 0⟩ : Gd)) (w6 := w6) (v' := v') HM5.out (by rw [HDL.out]; exact hrow) hg HD5.out ⟨rfl, rfl⟩)); go_loud (have t0 := HP.out.1.cell 1; have tf := HP.out.1.frozen 1; have tl := HP.out.1.lt; simp only [List.getElem?_toArray, List.getElem?_cons_zero, List.getElem?_cons_succ] at t0; have HGG := Lib.hid hg; obtain ⟨Av, cv, hve, _⟩ := owns_form hrow; subst hve; clear hrow hg hnew))
          go_roundw
          case rel => exact ⟨k + 1, _, ds ++ [(⟨⟨[], [], []⟩, none, 0, none, 0, .slice none 0 0⟩ : Gd)], by omega, by go_num, HP.out.2, by rw [List.map_append, HDS.out, List.range_succ, List.map_append, List.map_singleton, List.map_singleton, HGL.out]⟩
          case measure => simp [intOf]; omega
        · have hkm : ((k : Int) % 3 == 2) = false := by simp; omega
          have HGL := Lib.hid (show M4.glyph k = ⟨[], [((k : Int), 1, true), (10 * (k : Int), 2, false)], [1]⟩ by unfold M4.glyph; rw [if_neg hk3])
          clear hk3
          obtain ⟨W5, hW5⟩ : ∃ W5, ((((wr.alloc (.cells #[.int .i64 k, .int .i64 1, .bool true, .int .i64 (10 * (k : Int)), .int .i64 2, .bool false] 59)).alloc (.cells #[.int .i64 1] 3)).alloc (.cells #[.string ⟨#[]⟩, .int .i64 0, .bool false, .slice (some ⟨wr.heap.size, 0, none⟩) 2 2, .slice (some ⟨wr.heap.size + 1, 0, none⟩) 1 1, .slice none 0 0, .slice none 0 0, .slice none 0 0, .slice none 0 0] 45)).alloc (.cells #[.string ⟨#[]⟩, .int .i64 0, .bool false, .slice (some ⟨wr.heap.size, 0, none⟩) 2 2, .slice (some ⟨wr.heap.size + 1, 0, none⟩) 1 1, .slice none 0 0, .slice none 0 0, .slice none 0 0, .slice none 0 0] 45)) = W5 := ⟨_, rfl⟩
          have hM5 : MkS w W5 (w.heap.size + 1) (.slice gA k gc) ds := by rw [← hW5]; exact HMK.out.grow (HGR.out _ _ _ _)
          have hR5 : Reads W5 W5.heap.size 9 (some ⟨wr.heap.size + 1 + 1 + 1, 0, none⟩) 1 (gcells (⟨⟨[], [((k : Int), 1, true), (10 * (k : Int), 2, false)], [1]⟩, some ⟨wr.heap.size, 0, none⟩, 2, some ⟨wr.heap.size + 1, 0, none⟩, 1, .slice none 0 0⟩ : Gd)) := by
            rw [← hW5]
            exact Reads.blk (cs := gcells (⟨⟨[], [((k : Int), 1, true), (10 * (k : Int), 2, false)], [1]⟩, some ⟨wr.heap.size, 0, none⟩, 2, some ⟨wr.heap.size + 1, 0, none⟩, 1, .slice none 0 0⟩ : Gd)) (Blk.new_at _ _ _ (by simp only [World.size_alloc])) 9 1 rfl
          have hO5 : ∀ u ∈ gcells (⟨⟨[], [((k : Int), 1, true), (10 * (k : Int), 2, false)], [1]⟩, some ⟨wr.heap.size, 0, none⟩, 2, some ⟨wr.heap.size + 1, 0, none⟩, 1, .slice none 0 0⟩ : Gd), u.oneCell' = true := by
            intro u hu
            simp only [gcells, List.mem_cons, List.not_mem_nil, or_false] at hu
            rcases hu with rfl | rfl | rfl | rfl | rfl | rfl | rfl | rfl | rfl <;> rfl
          have hD5 : Rd W5 59 ((⟨⟨[], [((k : Int), 1, true), (10 * (k : Int), 2, false)], [1]⟩, some ⟨wr.heap.size, 0, none⟩, 2, some ⟨wr.heap.size + 1, 0, none⟩, 1, .slice none 0 0⟩ : Gd)).pA (opts ((⟨⟨[], [((k : Int), 1, true), (10 * (k : Int), 2, false)], [1]⟩, some ⟨wr.heap.size, 0, none⟩, 2, some ⟨wr.heap.size + 1, 0, none⟩, 1, .slice none 0 0⟩ : Gd)).g.pts) ∧ ((⟨⟨[], [((k : Int), 1, true), (10 * (k : Int), 2, false)], [1]⟩, some ⟨wr.heap.size, 0, none⟩, 2, some ⟨wr.heap.size + 1, 0, none⟩, 1, .slice none 0 0⟩ : Gd)).g.pts.length ≤ ((⟨⟨[], [((k : Int), 1, true), (10 * (k : Int), 2, false)], [1]⟩, some ⟨wr.heap.size, 0, none⟩, 2, some ⟨wr.heap.size + 1, 0, none⟩, 1, .slice none 0 0⟩ : Gd)).pc ∧ Rd W5 3 ((⟨⟨[], [((k : Int), 1, true), (10 * (k : Int), 2, false)], [1]⟩, some ⟨wr.heap.size, 0, none⟩, 2, some ⟨wr.heap.size + 1, 0, none⟩, 1, .slice none 0 0⟩ : Gd)).eA (ints ((⟨⟨[], [((k : Int), 1, true), (10 * (k : Int), 2, false)], [1]⟩, some ⟨wr.heap.size, 0, none⟩, 2, some ⟨wr.heap.size + 1, 0, none⟩, 1, .slice none 0 0⟩ : Gd)).g.ends) ∧ ((⟨⟨[], [((k : Int), 1, true), (10 * (k : Int), 2, false)], [1]⟩, some ⟨wr.heap.size, 0, none⟩, 2, some ⟨wr.heap.size + 1, 0, none⟩, 1, .slice none 0 0⟩ : Gd)).g.ends.length ≤ ((⟨⟨[], [((k : Int), 1, true), (10 * (k : Int), 2, false)], [1]⟩, some ⟨wr.heap.size, 0, none⟩, 2, some ⟨wr.heap.size + 1, 0, none⟩, 1, .slice none 0 0⟩ : Gd)).ec := by
            rw [← hW5]
            exact ⟨.inr ⟨_, _, rfl, ((((Blk.new _ _ _).alloc _).alloc _).alloc _), rfl⟩, Nat.le_refl _, .inr ⟨_, _, rfl, ((Blk.new_at _ _ _ (by simp only [World.size_alloc])).alloc _).alloc _, rfl⟩, Nat.le_refl _⟩
          have hS5 : W5.heap.size = wr.heap.size + 4 := by rw [← hW5]; simp only [World.size_alloc]
          have hr5 := hM5.row
          rw [HDL.out] at hr5
          have HM5 := Lib.hid hM5
          have HR5 := Lib.hid hR5
          have HO5 := Lib.hid hO5
          have HD5 := Lib.hid hD5
          have HW5 := Lib.hid hW5
          have HS5 := Lib.hid hS5
          have HRR5 := Lib.hid hr5
          clear hM5 hR5 hO5 hD5 hW5 hS5 hr5
          go_wp2_with (at_builtin; go_loud (rw [HW5.out]); go_loud (refine wpList_append_any _ rfl (.tmp 40) (.tmp 42) _ rfl w.heap.size 45 i1 _ 9 176 Try.underlying24 hi0 hi1 hi2 hi3 rfl (show 0 < 9 by decide) (.slice gA k gc) k (ds.flatMap gcells) rfl HRR5.out _ _ 1 1 (gcells (⟨⟨[], [((k : Int), 1, true), (10 * (k : Int), 2, false)], [1]⟩, some ⟨wr.heap.size, 0, none⟩, 2, some ⟨wr.heap.size + 1, 0, none⟩, 1, .slice none 0 0⟩ : Gd)) rfl HR5.out HO5.out (by unfold maxLen; omega) (by omega) (by have := HS5.out; omega) ?_); go_loud (intro v' w6 hrow hg hnew); go_loud (have HP := Lib.hid (MkS.glyph (d := (⟨⟨[], [((k : Int), 1, true), (10 * (k : Int), 2, false)], [1]⟩, some ⟨wr.heap.size, 0, none⟩, 2, some ⟨wr.heap.size + 1, 0, none⟩, 1, .slice none 0 0⟩ : Gd)) (w6 := w6) (v' := v') HM5.out (by rw [HDL.out]; exact hrow) hg HD5.out ⟨rfl, rfl⟩)); go_loud (have t0 := HP.out.1.cell 1; have tf := HP.out.1.frozen 1; have tl := HP.out.1.lt; simp only [List.getElem?_toArray, List.getElem?_cons_zero, List.getElem?_cons_succ] at t0; have HGG := Lib.hid hg; obtain ⟨Av, cv, hve, _⟩ := owns_form hrow; subst hve; clear hrow hg hnew))
          go_roundw
          case rel => exact ⟨k + 1, _, ds ++ [(⟨⟨[], [((k : Int), 1, true), (10 * (k : Int), 2, false)], [1]⟩, some ⟨wr.heap.size, 0, none⟩, 2, some ⟨wr.heap.size + 1, 0, none⟩, 1, .slice none 0 0⟩ : Gd)], by omega, by go_num, HP.out.2, by rw [List.map_append, HDS.out, List.range_succ, List.map_append, List.map_singleton, List.map_singleton, HGL.out]⟩
          case measure => simp [intOf]; omega
      · have hkn : nn = k := by omega
        subst hkn
        clear b1 b1' bf bl hgc HRW HGR hi0 hi1 hi2 hi3
        go_wp2_with fail
        go_loopw [9] (fun i wr => ∃ (j : Nat) (gv : Value) (ds : List Gd), 1 ≤ j ∧ j ≤ 16 ∧ i = .int .i64 j ∧ MkS w wr (w.heap.size + 1) gv ds ∧ ds.map Gd.g = M4.upto s nn loops (j - 1)) (fun i _ => 16 - (intOf i).toNat)
        case atStart => exact ⟨1, _, ds, Nat.le_refl _, by decide, by go_num, HMK.out, by rw [HDS.out]; rfl⟩
        case round =>
          obtain ⟨j, gv, ds2, hj1, hj16, rfl, hM2, hds2⟩ := hrel
          have HMK2 := Lib.hid hM2
          have HDS2 := Lib.hid hds2
          clear hM2 hds2
          by_cases hjm : j < m ∧ j < 16
          · obtain ⟨hjm, hj⟩ := hjm
            obtain ⟨x, hx⟩ : ∃ x, s[j]? = some x := ⟨_, List.getElem?_eq_getElem (by have := HM.out; omega)⟩
            have zx := (HMK2.out.gr.cell (p := ⟨b, off + j, none⟩) (by show b < _; omega) (fun x => x)).trans (HC.out j _ (ints_at _ _ _ hx))
            have zbl : b < wr.heap.size := by have := HMK2.out.gr.size; omega
            have hxi := HI.out x (List.mem_of_getElem? hx)
            have HX := Lib.hid hx
            clear hx
            go_wp2_with fail
            refine (rest4_any x nn wr (by omega) (by omega)).mono ?_
            rintro e w' ⟨rfl, rfl⟩
            have hw8 := tdiv_in hxi (show (0 : Int) < 8 by decide)
            have hw3 := tdiv_in hxi (show (0 : Int) < 3 by decide)
            have ha0 := Int.emod_nonneg x (show (nn : Int) ≠ 0 by omega)
            have ha1 := Int.emod_lt_of_pos x (show (0 : Int) < nn by omega)
            obtain ⟨a, ha⟩ := Int.eq_ofNat_of_zero_le ha0
            have hk0 := Int.emod_nonneg (x.tdiv 8) (show (nn : Int) + 1 ≠ 0 by omega)
            have hk1 := Int.emod_lt_of_pos (x.tdiv 8) (show (0 : Int) < (nn : Int) + 1 by omega)
            have hkof : M4.kOf nn loops x = if loops = false ∧ 0 ≤ (x.tdiv 8) % (nn + 1) - 1 ∧ (x.tdiv 8) % (nn + 1) - 1 ≤ x % nn then x % nn + 1 else (x.tdiv 8) % (nn + 1) - 1 := rfl
            obtain ⟨y8, hy8⟩ : ∃ y, x.tdiv 8 = y := ⟨_, rfl⟩
            obtain ⟨y3, hy3⟩ : ∃ y, x.tdiv 3 = y := ⟨_, rfl⟩
            replace hw8 := hw8.trans hy8
            have HW3 := Lib.hid ((tdiv_in' hxi (show (0 : Int) < 3 by decide)).trans hy3)
            clear hw3
            rw [hy8] at hk0 hk1 hkof
            obtain ⟨k0, hk0e⟩ : ∃ k0, y8 % ((nn : Int) + 1) = k0 := ⟨_, rfl⟩
            rw [hk0e] at hk0 hk1 hkof
            rw [ha] at ha0 ha1 hkof
            have HA := Lib.hid ha
            have HY3 := Lib.hid hy3
            have HKO := Lib.hid hkof
            have HY8 := Lib.hid hy8
            rw [ha]
            clear ha hy3 hkof hy8
            go_wp2_with fail
            refine (rest4_any y8 ((nn : Int) + 1) wr (by omega) (by omega)).mono ?_
            rintro e w' ⟨rfl, rfl⟩
            rw [hk0e]
            clear hk0e hw8
            have hdl2 : ds2.length = nn := by
              have h := congrArg List.length HDS2.out
              rw [M4.upto_len, List.length_map] at h
              exact h
            obtain ⟨d, hd⟩ : ∃ d, ds2[a]? = some d := ⟨_, List.getElem?_eq_getElem (by omega)⟩
            have hdok : M4.Ok (j - 1) d.g := M4.upto_ok hn8 loops (j - 1) d.g (by rw [← HDS2.out]; exact List.mem_map_of_mem (List.mem_of_getElem? hd))
            have hrw := HMK2.out.row
            rw [hdl2] at hrw
            obtain ⟨gb, gc2, rfl, hgc2, hgbb, hgbl, hcell⟩ := owns_at hrw (by omega)
            obtain ⟨qA, qc, hq, hqc, _⟩ := owns_form (HMK2.out.parts d (List.mem_of_getElem? hd))
            obtain ⟨pl, hpl⟩ : ∃ pl, pl = d.g.parts.length := ⟨_, rfl⟩
            have hpl15 : pl ≤ 15 := by have := hdok.1; omega
            have zq := hcell (a * 9 + 5) _ ((flat9_get hd 5 (by decide)).trans rfl)
            rw [hq, ← hpl] at zq
            have e1 := HMK2.out.box.cell 1
            simp only [List.getElem?_toArray, List.getElem?_cons_zero, List.getElem?_cons_succ] at e1
            have e1l := HMK2.out.box.lt
            have zql : gb < wr.heap.size := hgbl
            have HD := Lib.hid hd
            have HDL2 := Lib.hid hdl2
            have HQ := Lib.hid hq
            have HPL := Lib.hid hpl
            obtain ⟨i2, hi20, hi21, hi22, hi23⟩ := info_m info_part
            have HMA := Lib.hid (show ∀ o : Obj, MkS w (wr.drew.alloc o) (w.heap.size + 1) (.slice (some ⟨gb, 0, none⟩) nn gc2) ds2 from fun o => HMK2.out.grow ((Fr.refl _ _).drew.alloc o))
            have HPR := Lib.hid (show ∀ o : Obj, (wr.drew.alloc o).ownsRow w.heap.size 48 3 (.slice qA pl qc) pl (prts d.g.parts) from fun o => by
              have h := (HMA.out o).parts d (List.mem_of_getElem? hd)
              rw [hq, ← hpl] at h
              exact h)
            have HW25 := Lib.hid (show IntKind.i64.wrap (y3 % 50 - 25) = y3 % 50 - 25 from IntWalk.i64_in _ (by have := Int.emod_nonneg y3 (show (50 : Int) ≠ 0 by decide); have := Int.emod_lt_of_pos y3 (show (0 : Int) < 50 by decide); omega))
            clear hdl2 hd hdok hrw hcell hq hpl hqc hgc2
            cases loops with
            | true =>
              have hko : M4.kOf nn true x = k0 - 1 := by rw [HKO.out, if_neg (by simp)]
              have HKO2 := Lib.hid hko
              clear hko
              go_wp2_with fail
              have hS : (fun wq : World => wq.cell? ⟨w.heap.size + 1, 1, none⟩ = some (.slice (some ⟨gb, 0, none⟩) nn gc2) ∧ wq.cell? ⟨gb, a * 9 + 5, none⟩ = some (.slice qA pl qc) ∧ wq.cell? ⟨b, off + j, none⟩ = some (.int .i64 x)) wr.drew := ⟨e1, zq, zx⟩
              refine wp_region_seqT (fun i => !([14, 20, 23, 24, 27] : List Nat).contains i) (fun i => ([1, 4, 8, 13, 18] : List Nat).contains i) (fun i => ([14, 20, 23, 24] : List Nat).contains i) [0, 1, 2, 3, 4, 5, 6, 7, 8, 9, 10, 11, 12, 13, 15, 16, 17, 18, 19, 14, 20, 21, 22, 23, 24, 25, 26, 27] (fun wq : World => wq.cell? ⟨w.heap.size + 1, 1, none⟩ = some (.slice (some ⟨gb, 0, none⟩) nn gc2) ∧ wq.cell? ⟨gb, a * 9 + 5, none⟩ = some (.slice qA pl qc) ∧ wq.cell? ⟨b, off + j, none⟩ = some (.int .i64 x)) (by kernel_rfl) (by kernel_rfl) (by kernel_rfl) (by kernel_rfl) ?_
              iterate 19 (first | refine wpSeq_pureA (v := _) rfl rfl rfl ?_ | refine wpSeq_loadA (v := _) rfl rfl hS rfl ?_)
              refine wpSeq_heavy rfl rfl (fun K hK => ?_); go_simp
              refine (rest4_any x 50 wr.drew (by decide) (by decide)).mono ?_
              rintro e w5 ⟨rfl, rfl⟩
              dsimp only
              refine hK _ _ (fun _ => hS) ?_; clear hK K
              refine wpSeq_heavy rfl rfl (fun K hK => ?_); go_simp
              rw [HW3.out]
              refine (rest4_any y3 50 wr.drew (by decide) (by decide)).mono ?_
              rintro e w5 ⟨rfl, rfl⟩
              dsimp only
              refine hK _ _ (fun _ => hS) ?_; clear hK K
              iterate 2 (first | refine wpSeq_pureA (v := _) rfl rfl rfl ?_ | refine wpSeq_loadA (v := _) rfl rfl hS rfl ?_)
              refine wpSeq_heavy rfl rfl (fun K hK => ?_); go_simp
              refine hK _ _ (fun _ => ⟨(World.cell?_alloc_lt _ _ _ e1l).trans e1, (World.cell?_alloc_lt _ _ _ zql).trans zq, (World.cell?_alloc_lt _ _ _ zbl).trans zx⟩) ?_; clear hK K
              refine wpSeq_heavy rfl rfl (fun K hK => ?_)
              rw [HW25.out]
              refine step_own _ rfl (.tmp 98) (.tmp 113) _ rfl w.heap.size 48 i2 _ 3 24 Try.underlying40 hi20 hi21 hi22 hi23 rfl (by decide) (.slice qA pl qc) pl (prts d.g.parts) rfl (HPR.out _) _ _ 1 1 [.int .i64 (k0 - 1), .int .i64 (x % 50), .int .i64 (y3 % 50 - 25)] rfl (Reads.blk (cs := [.int .i64 (k0 - 1), .int .i64 (x % 50), .int .i64 (y3 % 50 - 25)]) (Blk.new _ _ _) 3 1 rfl) (by simp [Value.oneCell']) (by unfold maxLen; omega) (by omega) (by have := HMK2.out.gr.size; simp; omega) ?_
              intro v' w6 hrow hg hnew
              have hP := MkS.part (p := ((k0 - 1), x % 50, y3 % 50 - 25)) (HMA.out (.cells #[.int .i64 (k0 - 1), .int .i64 (x % 50), .int .i64 (y3 % 50 - 25)] 48)) (by rw [HDL2.out]) HD.out (by rw [← HPL.out]; exact hrow) (by rw [HQ.out, ← HPL.out]; exact hg) (by rw [HQ.out, ← HPL.out]; exact hnew)
              obtain ⟨_, _, gcs, hgb0⟩ := owns_block (HMA.out (.cells #[.int .i64 (k0 - 1), .int .i64 (x % 50), .int .i64 (y3 % 50 - 25)] 48)).row (show (Value.slice (some ⟨gb, 0, none⟩) nn gc2).ownBlock = some gb from rfl)
              have hgb6 := hP.1 _ _ _ hgb0 (by decide)
              have zq6 : w6.cell? ⟨gb, a * 9 + 5, none⟩ = some (.slice qA pl qc) := (hgb6.cell _).trans ((hgb0.cell _).symm.trans ((World.cell?_alloc_lt _ _ _ zql).trans zq))
              have hbx6 := hP.1 _ _ _ (HMA.out (.cells #[.int .i64 (k0 - 1), .int .i64 (x % 50), .int .i64 (y3 % 50 - 25)] 48)).box (by decide)
              have e16 := hbx6.cell 1
              simp only [List.getElem?_toArray, List.getElem?_cons_zero, List.getElem?_cons_succ] at e16
              have zf6 := hgb6.frozen (a * 9 + 5)
              have zl6 := hgb6.lt
              have zx6 : w6.cell? ⟨b, off + j, none⟩ = some (.int .i64 x) := by
                refine (World.cell?_of_block (w := wr.drew.alloc (.cells #[.int .i64 (k0 - 1), .int .i64 (x % 50), .int .i64 (y3 % 50 - 25)] 48)) (hg.block b (by simp; omega) fun e => ?_)).trans ((World.cell?_alloc_lt _ _ _ zbl).trans zx)
                have := (owns_block (HPR.out (.cells #[.int .i64 (k0 - 1), .int .i64 (x % 50), .int .i64 (y3 % 50 - 25)] 48)) e.symm).1
                omega
              obtain ⟨Av, cv, hve, _⟩ := owns_form hrow
              subst hve
              have HP := Lib.hid hP.2
              clear hrow hg hnew hP hgb0 hgb6 hbx6
              refine hK _ _ (fun _ => ⟨e16, zq6, zx6⟩) ?_; clear hK K
              iterate 2 (first | refine wpSeq_pureA (v := _) rfl rfl rfl ?_ | refine wpSeq_loadA (v := _) rfl rfl hS rfl ?_)
              refine wpSeq_heavy rfl rfl (fun K hK => ?_); go_simp
              refine hK _ _ (fun h => by cases h) ?_; clear hK K
              refine wpSeq_end ?_
              clear e1 zq zx e16 zq6 zx6 hS
              go_wp2_with fail
              go_roundw
              case rel =>
                refine ⟨j + 1, _, _, by omega, by omega, by go_num, HP.out, ?_⟩
                have hsx : s[j - 1 + 1]? = some x := by rw [show j - 1 + 1 = j by omega]; exact HX.out
                rw [show j + 1 - 1 = j - 1 + 1 by omega, M4.upto_succ nn _ hsx, ← HDS2.out]
                unfold M4.add
                rw [if_neg (by rw [HKO2.out]; simp), HA.out, Int.toNat_natCast, List.map_set]
                have hgd : (ds2.map Gd.g).getD a ⟨[], [], []⟩ = d.g := by rw [List.getD_eq_getElem?_getD, List.getElem?_map, HD.out]; rfl
                rw [hgd]
                simp only [M4.part, HKO2.out, HY3.out]
              case measure => simp [intOf]; omega
            | false =>
              by_cases h1 : 0 ≤ k0 - 1
              · by_cases h2 : k0 - 1 ≤ a
                · have hko : M4.kOf nn false x = a + 1 := by rw [HKO.out, if_pos ⟨rfl, h1, h2⟩]
                  have HKO2 := Lib.hid hko
                  clear hko
                  by_cases h3 : (nn : Int) ≤ a + 1
                  · go_wp2_with fail
                    go_roundw
                    case rel =>
                      refine ⟨j + 1, _, ds2, by omega, by omega, by go_num, HMK2.out, ?_⟩
                      have hsx : s[j - 1 + 1]? = some x := by rw [show j - 1 + 1 = j by omega]; exact HX.out
                      rw [show j + 1 - 1 = j - 1 + 1 by omega, M4.upto_succ nn _ hsx, ← HDS2.out]
                      unfold M4.add
                      rw [if_pos ⟨rfl, by rw [HKO2.out]; exact h3⟩]
                    case measure => simp [intOf]; omega
                  · go_wp2_with fail
                    have hS : (fun wq : World => wq.cell? ⟨w.heap.size + 1, 1, none⟩ = some (.slice (some ⟨gb, 0, none⟩) nn gc2) ∧ wq.cell? ⟨gb, a * 9 + 5, none⟩ = some (.slice qA pl qc) ∧ wq.cell? ⟨b, off + j, none⟩ = some (.int .i64 x)) wr.drew := ⟨e1, zq, zx⟩
                    refine wp_region_seqT (fun i => !([14, 20, 23, 24, 27] : List Nat).contains i) (fun i => ([1, 4, 8, 13, 18] : List Nat).contains i) (fun i => ([14, 20, 23, 24] : List Nat).contains i) [0, 1, 2, 3, 4, 5, 6, 7, 8, 9, 10, 11, 12, 13, 15, 16, 17, 18, 19, 14, 20, 21, 22, 23, 24, 25, 26, 27] (fun wq : World => wq.cell? ⟨w.heap.size + 1, 1, none⟩ = some (.slice (some ⟨gb, 0, none⟩) nn gc2) ∧ wq.cell? ⟨gb, a * 9 + 5, none⟩ = some (.slice qA pl qc) ∧ wq.cell? ⟨b, off + j, none⟩ = some (.int .i64 x)) (by kernel_rfl) (by kernel_rfl) (by kernel_rfl) (by kernel_rfl) ?_
                    iterate 19 (first | refine wpSeq_pureA (v := _) rfl rfl rfl ?_ | refine wpSeq_loadA (v := _) rfl rfl hS rfl ?_)
                    refine wpSeq_heavy rfl rfl (fun K hK => ?_); go_simp
                    refine (rest4_any x 50 wr.drew (by decide) (by decide)).mono ?_
                    rintro e w5 ⟨rfl, rfl⟩
                    dsimp only
                    refine hK _ _ (fun _ => hS) ?_; clear hK K
                    refine wpSeq_heavy rfl rfl (fun K hK => ?_); go_simp
                    rw [HW3.out]
                    refine (rest4_any y3 50 wr.drew (by decide) (by decide)).mono ?_
                    rintro e w5 ⟨rfl, rfl⟩
                    dsimp only
                    refine hK _ _ (fun _ => hS) ?_; clear hK K
                    iterate 2 (first | refine wpSeq_pureA (v := _) rfl rfl rfl ?_ | refine wpSeq_loadA (v := _) rfl rfl hS rfl ?_)
                    refine wpSeq_heavy rfl rfl (fun K hK => ?_); go_simp
                    refine hK _ _ (fun _ => ⟨(World.cell?_alloc_lt _ _ _ e1l).trans e1, (World.cell?_alloc_lt _ _ _ zql).trans zq, (World.cell?_alloc_lt _ _ _ zbl).trans zx⟩) ?_; clear hK K
                    refine wpSeq_heavy rfl rfl (fun K hK => ?_)
                    rw [HW25.out]
                    refine step_own _ rfl (.tmp 98) (.tmp 113) _ rfl w.heap.size 48 i2 _ 3 24 Try.underlying40 hi20 hi21 hi22 hi23 rfl (by decide) (.slice qA pl qc) pl (prts d.g.parts) rfl (HPR.out _) _ _ 1 1 [.int .i64 ((a : Int) + 1), .int .i64 (x % 50), .int .i64 (y3 % 50 - 25)] rfl (Reads.blk (cs := [.int .i64 ((a : Int) + 1), .int .i64 (x % 50), .int .i64 (y3 % 50 - 25)]) (Blk.new _ _ _) 3 1 rfl) (by simp [Value.oneCell']) (by unfold maxLen; omega) (by omega) (by have := HMK2.out.gr.size; simp; omega) ?_
                    intro v' w6 hrow hg hnew
                    have hP := MkS.part (p := (((a : Int) + 1), x % 50, y3 % 50 - 25)) (HMA.out (.cells #[.int .i64 ((a : Int) + 1), .int .i64 (x % 50), .int .i64 (y3 % 50 - 25)] 48)) (by rw [HDL2.out]) HD.out (by rw [← HPL.out]; exact hrow) (by rw [HQ.out, ← HPL.out]; exact hg) (by rw [HQ.out, ← HPL.out]; exact hnew)
                    obtain ⟨_, _, gcs, hgb0⟩ := owns_block (HMA.out (.cells #[.int .i64 ((a : Int) + 1), .int .i64 (x % 50), .int .i64 (y3 % 50 - 25)] 48)).row (show (Value.slice (some ⟨gb, 0, none⟩) nn gc2).ownBlock = some gb from rfl)
                    have hgb6 := hP.1 _ _ _ hgb0 (by decide)
                    have zq6 : w6.cell? ⟨gb, a * 9 + 5, none⟩ = some (.slice qA pl qc) := (hgb6.cell _).trans ((hgb0.cell _).symm.trans ((World.cell?_alloc_lt _ _ _ zql).trans zq))
                    have hbx6 := hP.1 _ _ _ (HMA.out (.cells #[.int .i64 ((a : Int) + 1), .int .i64 (x % 50), .int .i64 (y3 % 50 - 25)] 48)).box (by decide)
                    have e16 := hbx6.cell 1
                    simp only [List.getElem?_toArray, List.getElem?_cons_zero, List.getElem?_cons_succ] at e16
                    have zf6 := hgb6.frozen (a * 9 + 5)
                    have zl6 := hgb6.lt
                    have zx6 : w6.cell? ⟨b, off + j, none⟩ = some (.int .i64 x) := by
                      refine (World.cell?_of_block (w := wr.drew.alloc (.cells #[.int .i64 ((a : Int) + 1), .int .i64 (x % 50), .int .i64 (y3 % 50 - 25)] 48)) (hg.block b (by simp; omega) fun e => ?_)).trans ((World.cell?_alloc_lt _ _ _ zbl).trans zx)
                      have := (owns_block (HPR.out (.cells #[.int .i64 ((a : Int) + 1), .int .i64 (x % 50), .int .i64 (y3 % 50 - 25)] 48)) e.symm).1
                      omega
                    obtain ⟨Av, cv, hve, _⟩ := owns_form hrow
                    subst hve
                    have HP := Lib.hid hP.2
                    clear hrow hg hnew hP hgb0 hgb6 hbx6
                    refine hK _ _ (fun _ => ⟨e16, zq6, zx6⟩) ?_; clear hK K
                    iterate 2 (first | refine wpSeq_pureA (v := _) rfl rfl rfl ?_ | refine wpSeq_loadA (v := _) rfl rfl hS rfl ?_)
                    refine wpSeq_heavy rfl rfl (fun K hK => ?_); go_simp
                    refine hK _ _ (fun h => by cases h) ?_; clear hK K
                    refine wpSeq_end ?_
                    clear e1 zq zx e16 zq6 zx6 hS
                    go_wp2_with fail
                    go_roundw
                    case rel =>
                      refine ⟨j + 1, _, _, by omega, by omega, by go_num, HP.out, ?_⟩
                      have hsx : s[j - 1 + 1]? = some x := by rw [show j - 1 + 1 = j by omega]; exact HX.out
                      rw [show j + 1 - 1 = j - 1 + 1 by omega, M4.upto_succ nn _ hsx, ← HDS2.out]
                      unfold M4.add
                      rw [if_neg (by rw [HKO2.out]; exact fun h => by have := h.2; omega), HA.out, Int.toNat_natCast, List.map_set]
                      have hgd : (ds2.map Gd.g).getD a ⟨[], [], []⟩ = d.g := by rw [List.getD_eq_getElem?_getD, List.getElem?_map, HD.out]; rfl
                      rw [hgd]
                      simp only [M4.part, HKO2.out, HY3.out]
                    case measure => simp [intOf]; omega
                · have hko : M4.kOf nn false x = k0 - 1 := by rw [HKO.out, if_neg (fun h => h2 h.2.2)]
                  have HKO2 := Lib.hid hko
                  clear hko
                  go_wp2_with fail
                  have hS : (fun wq : World => wq.cell? ⟨w.heap.size + 1, 1, none⟩ = some (.slice (some ⟨gb, 0, none⟩) nn gc2) ∧ wq.cell? ⟨gb, a * 9 + 5, none⟩ = some (.slice qA pl qc) ∧ wq.cell? ⟨b, off + j, none⟩ = some (.int .i64 x)) wr.drew := ⟨e1, zq, zx⟩
                  refine wp_region_seqT (fun i => !([14, 20, 23, 24, 27] : List Nat).contains i) (fun i => ([1, 4, 8, 13, 18] : List Nat).contains i) (fun i => ([14, 20, 23, 24] : List Nat).contains i) [0, 1, 2, 3, 4, 5, 6, 7, 8, 9, 10, 11, 12, 13, 15, 16, 17, 18, 19, 14, 20, 21, 22, 23, 24, 25, 26, 27] (fun wq : World => wq.cell? ⟨w.heap.size + 1, 1, none⟩ = some (.slice (some ⟨gb, 0, none⟩) nn gc2) ∧ wq.cell? ⟨gb, a * 9 + 5, none⟩ = some (.slice qA pl qc) ∧ wq.cell? ⟨b, off + j, none⟩ = some (.int .i64 x)) (by kernel_rfl) (by kernel_rfl) (by kernel_rfl) (by kernel_rfl) ?_
                  iterate 19 (first | refine wpSeq_pureA (v := _) rfl rfl rfl ?_ | refine wpSeq_loadA (v := _) rfl rfl hS rfl ?_)
                  refine wpSeq_heavy rfl rfl (fun K hK => ?_); go_simp
                  refine (rest4_any x 50 wr.drew (by decide) (by decide)).mono ?_
                  rintro e w5 ⟨rfl, rfl⟩
                  dsimp only
                  refine hK _ _ (fun _ => hS) ?_; clear hK K
                  refine wpSeq_heavy rfl rfl (fun K hK => ?_); go_simp
                  rw [HW3.out]
                  refine (rest4_any y3 50 wr.drew (by decide) (by decide)).mono ?_
                  rintro e w5 ⟨rfl, rfl⟩
                  dsimp only
                  refine hK _ _ (fun _ => hS) ?_; clear hK K
                  iterate 2 (first | refine wpSeq_pureA (v := _) rfl rfl rfl ?_ | refine wpSeq_loadA (v := _) rfl rfl hS rfl ?_)
                  refine wpSeq_heavy rfl rfl (fun K hK => ?_); go_simp
                  refine hK _ _ (fun _ => ⟨(World.cell?_alloc_lt _ _ _ e1l).trans e1, (World.cell?_alloc_lt _ _ _ zql).trans zq, (World.cell?_alloc_lt _ _ _ zbl).trans zx⟩) ?_; clear hK K
                  refine wpSeq_heavy rfl rfl (fun K hK => ?_)
                  rw [HW25.out]
                  refine step_own _ rfl (.tmp 98) (.tmp 113) _ rfl w.heap.size 48 i2 _ 3 24 Try.underlying40 hi20 hi21 hi22 hi23 rfl (by decide) (.slice qA pl qc) pl (prts d.g.parts) rfl (HPR.out _) _ _ 1 1 [.int .i64 (k0 - 1), .int .i64 (x % 50), .int .i64 (y3 % 50 - 25)] rfl (Reads.blk (cs := [.int .i64 (k0 - 1), .int .i64 (x % 50), .int .i64 (y3 % 50 - 25)]) (Blk.new _ _ _) 3 1 rfl) (by simp [Value.oneCell']) (by unfold maxLen; omega) (by omega) (by have := HMK2.out.gr.size; simp; omega) ?_
                  intro v' w6 hrow hg hnew
                  have hP := MkS.part (p := ((k0 - 1), x % 50, y3 % 50 - 25)) (HMA.out (.cells #[.int .i64 (k0 - 1), .int .i64 (x % 50), .int .i64 (y3 % 50 - 25)] 48)) (by rw [HDL2.out]) HD.out (by rw [← HPL.out]; exact hrow) (by rw [HQ.out, ← HPL.out]; exact hg) (by rw [HQ.out, ← HPL.out]; exact hnew)
                  obtain ⟨_, _, gcs, hgb0⟩ := owns_block (HMA.out (.cells #[.int .i64 (k0 - 1), .int .i64 (x % 50), .int .i64 (y3 % 50 - 25)] 48)).row (show (Value.slice (some ⟨gb, 0, none⟩) nn gc2).ownBlock = some gb from rfl)
                  have hgb6 := hP.1 _ _ _ hgb0 (by decide)
                  have zq6 : w6.cell? ⟨gb, a * 9 + 5, none⟩ = some (.slice qA pl qc) := (hgb6.cell _).trans ((hgb0.cell _).symm.trans ((World.cell?_alloc_lt _ _ _ zql).trans zq))
                  have hbx6 := hP.1 _ _ _ (HMA.out (.cells #[.int .i64 (k0 - 1), .int .i64 (x % 50), .int .i64 (y3 % 50 - 25)] 48)).box (by decide)
                  have e16 := hbx6.cell 1
                  simp only [List.getElem?_toArray, List.getElem?_cons_zero, List.getElem?_cons_succ] at e16
                  have zf6 := hgb6.frozen (a * 9 + 5)
                  have zl6 := hgb6.lt
                  have zx6 : w6.cell? ⟨b, off + j, none⟩ = some (.int .i64 x) := by
                    refine (World.cell?_of_block (w := wr.drew.alloc (.cells #[.int .i64 (k0 - 1), .int .i64 (x % 50), .int .i64 (y3 % 50 - 25)] 48)) (hg.block b (by simp; omega) fun e => ?_)).trans ((World.cell?_alloc_lt _ _ _ zbl).trans zx)
                    have := (owns_block (HPR.out (.cells #[.int .i64 (k0 - 1), .int .i64 (x % 50), .int .i64 (y3 % 50 - 25)] 48)) e.symm).1
                    omega
                  obtain ⟨Av, cv, hve, _⟩ := owns_form hrow
                  subst hve
                  have HP := Lib.hid hP.2
                  clear hrow hg hnew hP hgb0 hgb6 hbx6
                  refine hK _ _ (fun _ => ⟨e16, zq6, zx6⟩) ?_; clear hK K
                  iterate 2 (first | refine wpSeq_pureA (v := _) rfl rfl rfl ?_ | refine wpSeq_loadA (v := _) rfl rfl hS rfl ?_)
                  refine wpSeq_heavy rfl rfl (fun K hK => ?_); go_simp
                  refine hK _ _ (fun h => by cases h) ?_; clear hK K
                  refine wpSeq_end ?_
                  clear e1 zq zx e16 zq6 zx6 hS
                  go_wp2_with fail
                  go_roundw
                  case rel =>
                    refine ⟨j + 1, _, _, by omega, by omega, by go_num, HP.out, ?_⟩
                    have hsx : s[j - 1 + 1]? = some x := by rw [show j - 1 + 1 = j by omega]; exact HX.out
                    rw [show j + 1 - 1 = j - 1 + 1 by omega, M4.upto_succ nn _ hsx, ← HDS2.out]
                    unfold M4.add
                    rw [if_neg (by rw [HKO2.out]; exact fun h => by have := h.2; omega), HA.out, Int.toNat_natCast, List.map_set]
                    have hgd : (ds2.map Gd.g).getD a ⟨[], [], []⟩ = d.g := by rw [List.getD_eq_getElem?_getD, List.getElem?_map, HD.out]; rfl
                    rw [hgd]
                    simp only [M4.part, HKO2.out, HY3.out]
                  case measure => simp [intOf]; omega
              · have hko : M4.kOf nn false x = k0 - 1 := by rw [HKO.out, if_neg (fun h => h1 h.2.1)]
                have HKO2 := Lib.hid hko
                clear hko
                go_wp2_with fail
                have hS : (fun wq : World => wq.cell? ⟨w.heap.size + 1, 1, none⟩ = some (.slice (some ⟨gb, 0, none⟩) nn gc2) ∧ wq.cell? ⟨gb, a * 9 + 5, none⟩ = some (.slice qA pl qc) ∧ wq.cell? ⟨b, off + j, none⟩ = some (.int .i64 x)) wr.drew := ⟨e1, zq, zx⟩
                refine wp_region_seqT (fun i => !([14, 20, 23, 24, 27] : List Nat).contains i) (fun i => ([1, 4, 8, 13, 18] : List Nat).contains i) (fun i => ([14, 20, 23, 24] : List Nat).contains i) [0, 1, 2, 3, 4, 5, 6, 7, 8, 9, 10, 11, 12, 13, 15, 16, 17, 18, 19, 14, 20, 21, 22, 23, 24, 25, 26, 27] (fun wq : World => wq.cell? ⟨w.heap.size + 1, 1, none⟩ = some (.slice (some ⟨gb, 0, none⟩) nn gc2) ∧ wq.cell? ⟨gb, a * 9 + 5, none⟩ = some (.slice qA pl qc) ∧ wq.cell? ⟨b, off + j, none⟩ = some (.int .i64 x)) (by kernel_rfl) (by kernel_rfl) (by kernel_rfl) (by kernel_rfl) ?_
                iterate 19 (first | refine wpSeq_pureA (v := _) rfl rfl rfl ?_ | refine wpSeq_loadA (v := _) rfl rfl hS rfl ?_)
                refine wpSeq_heavy rfl rfl (fun K hK => ?_); go_simp
                refine (rest4_any x 50 wr.drew (by decide) (by decide)).mono ?_
                rintro e w5 ⟨rfl, rfl⟩
                dsimp only
                refine hK _ _ (fun _ => hS) ?_; clear hK K
                refine wpSeq_heavy rfl rfl (fun K hK => ?_); go_simp
                rw [HW3.out]
                refine (rest4_any y3 50 wr.drew (by decide) (by decide)).mono ?_
                rintro e w5 ⟨rfl, rfl⟩
                dsimp only
                refine hK _ _ (fun _ => hS) ?_; clear hK K
                iterate 2 (first | refine wpSeq_pureA (v := _) rfl rfl rfl ?_ | refine wpSeq_loadA (v := _) rfl rfl hS rfl ?_)
                refine wpSeq_heavy rfl rfl (fun K hK => ?_); go_simp
                refine hK _ _ (fun _ => ⟨(World.cell?_alloc_lt _ _ _ e1l).trans e1, (World.cell?_alloc_lt _ _ _ zql).trans zq, (World.cell?_alloc_lt _ _ _ zbl).trans zx⟩) ?_; clear hK K
                refine wpSeq_heavy rfl rfl (fun K hK => ?_)
                rw [HW25.out]
                refine step_own _ rfl (.tmp 98) (.tmp 113) _ rfl w.heap.size 48 i2 _ 3 24 Try.underlying40 hi20 hi21 hi22 hi23 rfl (by decide) (.slice qA pl qc) pl (prts d.g.parts) rfl (HPR.out _) _ _ 1 1 [.int .i64 (k0 - 1), .int .i64 (x % 50), .int .i64 (y3 % 50 - 25)] rfl (Reads.blk (cs := [.int .i64 (k0 - 1), .int .i64 (x % 50), .int .i64 (y3 % 50 - 25)]) (Blk.new _ _ _) 3 1 rfl) (by simp [Value.oneCell']) (by unfold maxLen; omega) (by omega) (by have := HMK2.out.gr.size; simp; omega) ?_
                intro v' w6 hrow hg hnew
                have hP := MkS.part (p := ((k0 - 1), x % 50, y3 % 50 - 25)) (HMA.out (.cells #[.int .i64 (k0 - 1), .int .i64 (x % 50), .int .i64 (y3 % 50 - 25)] 48)) (by rw [HDL2.out]) HD.out (by rw [← HPL.out]; exact hrow) (by rw [HQ.out, ← HPL.out]; exact hg) (by rw [HQ.out, ← HPL.out]; exact hnew)
                obtain ⟨_, _, gcs, hgb0⟩ := owns_block (HMA.out (.cells #[.int .i64 (k0 - 1), .int .i64 (x % 50), .int .i64 (y3 % 50 - 25)] 48)).row (show (Value.slice (some ⟨gb, 0, none⟩) nn gc2).ownBlock = some gb from rfl)
                have hgb6 := hP.1 _ _ _ hgb0 (by decide)
                have zq6 : w6.cell? ⟨gb, a * 9 + 5, none⟩ = some (.slice qA pl qc) := (hgb6.cell _).trans ((hgb0.cell _).symm.trans ((World.cell?_alloc_lt _ _ _ zql).trans zq))
                have hbx6 := hP.1 _ _ _ (HMA.out (.cells #[.int .i64 (k0 - 1), .int .i64 (x % 50), .int .i64 (y3 % 50 - 25)] 48)).box (by decide)
                have e16 := hbx6.cell 1
                simp only [List.getElem?_toArray, List.getElem?_cons_zero, List.getElem?_cons_succ] at e16
                have zf6 := hgb6.frozen (a * 9 + 5)
                have zl6 := hgb6.lt
                have zx6 : w6.cell? ⟨b, off + j, none⟩ = some (.int .i64 x) := by
                  refine (World.cell?_of_block (w := wr.drew.alloc (.cells #[.int .i64 (k0 - 1), .int .i64 (x % 50), .int .i64 (y3 % 50 - 25)] 48)) (hg.block b (by simp; omega) fun e => ?_)).trans ((World.cell?_alloc_lt _ _ _ zbl).trans zx)
                  have := (owns_block (HPR.out (.cells #[.int .i64 (k0 - 1), .int .i64 (x % 50), .int .i64 (y3 % 50 - 25)] 48)) e.symm).1
                  omega
                obtain ⟨Av, cv, hve, _⟩ := owns_form hrow
                subst hve
                have HP := Lib.hid hP.2
                clear hrow hg hnew hP hgb0 hgb6 hbx6
                refine hK _ _ (fun _ => ⟨e16, zq6, zx6⟩) ?_; clear hK K
                iterate 2 (first | refine wpSeq_pureA (v := _) rfl rfl rfl ?_ | refine wpSeq_loadA (v := _) rfl rfl hS rfl ?_)
                refine wpSeq_heavy rfl rfl (fun K hK => ?_); go_simp
                refine hK _ _ (fun h => by cases h) ?_; clear hK K
                refine wpSeq_end ?_
                clear e1 zq zx e16 zq6 zx6 hS
                go_wp2_with fail
                go_roundw
                case rel =>
                  refine ⟨j + 1, _, _, by omega, by omega, by go_num, HP.out, ?_⟩
                  have hsx : s[j - 1 + 1]? = some x := by rw [show j - 1 + 1 = j by omega]; exact HX.out
                  rw [show j + 1 - 1 = j - 1 + 1 by omega, M4.upto_succ nn _ hsx, ← HDS2.out]
                  unfold M4.add
                  rw [if_neg (by rw [HKO2.out]; exact fun h => by have := h.2; omega), HA.out, Int.toNat_natCast, List.map_set]
                  have hgd : (ds2.map Gd.g).getD a ⟨[], [], []⟩ = d.g := by rw [List.getD_eq_getElem?_getD, List.getElem?_map, HD.out]; rfl
                  rw [hgd]
                  simp only [M4.part, HKO2.out, HY3.out]
                case measure => simp [intOf]; omega
          · obtain ⟨gA2, gc3, rfl, hgc3, _⟩ := owns_form HMK2.out.row
            have hbx := HMK2.out.box
            have hrx := HMK2.out.res
            have c0 := hbx.cell 0
            have c1 := hbx.cell 1
            have c2 := hbx.cell 2
            have c3 := hbx.cell 3
            have c4 := hbx.cell 4
            have c5 := hbx.cell 5
            have c6 := hbx.cell 6
            have c7 := hbx.cell 7
            have c8 := hbx.cell 8
            have r0 := hrx.cell 0
            have f0 := hrx.frozen 0
            have r1 := hrx.cell 1
            have f1 := hrx.frozen 1
            have r2 := hrx.cell 2
            have f2 := hrx.frozen 2
            have r3 := hrx.cell 3
            have f3 := hrx.frozen 3
            have r4 := hrx.cell 4
            have f4 := hrx.frozen 4
            have r5 := hrx.cell 5
            have f5 := hrx.frozen 5
            have r6 := hrx.cell 6
            have f6 := hrx.frozen 6
            have r7 := hrx.cell 7
            have f7 := hrx.frozen 7
            have r8 := hrx.cell 8
            have f8 := hrx.frozen 8
            have hrl := hrx.lt
            have hgs := HMK2.out.gr.size
            simp only [List.getElem?_toArray, List.getElem?_cons_zero, List.getElem?_cons_succ] at c0 c1 c2 c3 c4 c5 c6 c7 c8 r0 r1 r2 r3 r4 r5 r6 r7 r8
            clear hbx hrx
            have HRL := Lib.hid (show ∃ w9, _ from HMK2.out.last (s := s) (loops := loops) (j := j) hn8 HNUM.out HDS2.out ⟨hj1, hj16⟩ (by rw [← HM.out]; exact hjm))
            by_cases hjm2 : j < m
            · have hj2 : ¬ j < 16 := fun h => hjm ⟨hjm2, h⟩
              go_wp2_with fail
              obtain ⟨w9, hw9, hp9, hb9⟩ := HRL.out
              rw [hw9]
              have d0 := hb9.cell 0
              have d1 := hb9.cell 1
              have d2 := hb9.cell 2
              have d3 := hb9.cell 3
              have d4 := hb9.cell 4
              have d5 := hb9.cell 5
              have d6 := hb9.cell 6
              have d7 := hb9.cell 7
              have d8 := hb9.cell 8
              simp only [List.getElem?_toArray, List.getElem?_cons_zero, List.getElem?_cons_succ] at d0 d1 d2 d3 d4 d5 d6 d7 d8
              exact bodyPost_ret (v := .agg (fontC (.slice gA2 ds2.length gc3))) (by simp [results, Try.results11, go_sem, fontC, d0, d1, d2, d3, d4, d5, d6, d7, d8]) rfl hp9
            · go_wp2_with fail
              obtain ⟨w9, hw9, hp9, hb9⟩ := HRL.out
              rw [hw9]
              have d0 := hb9.cell 0
              have d1 := hb9.cell 1
              have d2 := hb9.cell 2
              have d3 := hb9.cell 3
              have d4 := hb9.cell 4
              have d5 := hb9.cell 5
              have d6 := hb9.cell 6
              have d7 := hb9.cell 7
              have d8 := hb9.cell 8
              simp only [List.getElem?_toArray, List.getElem?_cons_zero, List.getElem?_cons_succ] at d0 d1 d2 d3 d4 d5 d6 d7 d8
              exact bodyPost_ret (v := .agg (fontC (.slice gA2 ds2.length gc3))) (by simp [results, Try.results11, go_sem, fontC, d0, d1, d2, d3, d4, d5, d6, d7, d8]) rfl hp9
end Go.Proofs.Ytoklllbaihccnaa

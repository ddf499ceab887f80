/- The law ComposeAhead: its walk. Expanded from XCwA.src by expand.py. -/
import Derived.Test.YtoklllbaihccnaaCpF
import Derived.Test.YtoklllbaihccnaaCpG
import Derived.Test.YtoklllbaihccnaaCqF
import Derived.Test.YtoklllbaihccnaaCqH
set_option linter.unusedVariables false
set_option linter.unusedSimpArgs false
namespace Go.Proofs.Ytoklllbaihccnaa
open Go.RowKit Go.Shelf
abbrev fvC (A : Option Addr) (n c : Nat) : Fv := ⟨.int .i64 0, A, n, c, .slice none 0 0, .slice none 0 0, .slice none 0 0, .slice none 0 0, .slice none 0 0, .slice none 0 0, .slice none 0 0⟩
theorem fvC_one (A : Option Addr) (n c : Nat) : (fvC A n c).One := ⟨⟨_, rfl⟩, ⟨_, _, _, rfl⟩, ⟨_, _, _, rfl⟩, ⟨_, _, _, rfl⟩, ⟨_, _, _, rfl⟩, ⟨_, _, _, rfl⟩, ⟨_, _, _, rfl⟩, ⟨_, _, _, rfl⟩⟩
namespace Fo
open Ln Wk
theorem order_cases (gl : List Gl) (hp : ∀ g, (Lf.raw gl g).length ≤ 1000) : (∃ a : Nat, order gl = ([], (a : Int), 33) ∧ a < gl.length ∧ Ln.Loop gl a) ∨
    (∃ t : List Int, order gl = (t, 0, 0) ∧ t.length = gl.length ∧ t.Nodup ∧ (∀ x ∈ t, 0 ≤ x ∧ x < gl.length) ∧ ∀ pre x post, t = pre ++ x :: post → ∀ p ∈ partsOf gl x.toNat, p.1 ∈ pre) := by
  unfold order
  have ht := Ln.line_told (gl := gl) (gs := List.range gl.length) List.nodup_range
  split
  · rename_i h
    obtain ⟨a, b, c, _⟩ := order_bad hp h
    obtain ⟨n, hn⟩ := Int.eq_ofNat_of_zero_le a
    rw [hn] at b c ⊢
    exact .inl ⟨n, rfl, by omega, c⟩
  · rename_i h
    refine .inr ⟨_, rfl, ?_, ht.nd, fun x hx => ?_, ht.ord⟩
    · have h1 := List.Nodup.length_le_of_subset ht.nd (l₂ := asI (List.range gl.length)) fun x hx => ht.sub x hx
      simp only [List.length_map, List.length_range] at h1
      omega
    · obtain ⟨g, hg, rfl⟩ := mem_asI.1 (ht.sub x hx)
      have := List.mem_range.1 hg
      omega
end Fo
theorem nodup_in {l : List Int} (h : l.Nodup) {n : Nat} (hi : ∀ x ∈ l, 0 ≤ x ∧ x < n) : l.length ≤ n := by
  have h1 := List.Nodup.length_le_of_subset h (l₂ := Ln.asI (List.range n)) fun x hx => by
    have := hi x hx
    exact Ln.mem_asI.2 ⟨x.toNat, List.mem_range.2 (by omega), by omega⟩
  simpa using h1
theorem Wk.all_len {gl : List Gl} (hp : ∀ g, (partsOf gl g).length ≤ 1000) (g : Int) : (Wk.all gl g).length ≤ gl.length := by
  by_cases hg : 0 ≤ g ∧ g < gl.length
  · obtain ⟨h1, h2⟩ := Wk.all_ok hp hg
    exact nodup_in (h1.imp fun h e => by omega) fun x hx => ((h2 x).1 hx).inR hg
  · unfold Wk.all
    rw [if_neg (by simpa [thereB] using hg)]
    exact Nat.zero_le _
theorem BMap.ext {w : World} {b : Nat} {c c' : Int → Bool} (h : BMap w b c) (e : ∀ x, c x = c' x) : BMap w b c' := by
  have : c = c' := funext e
  rw [← this]; exact h
namespace M4
theorem made_in (s : List Int) {a : Nat} {g : Gl} (h : (made s true)[a]? = some g) : ∀ p ∈ g.parts, p.1 < (made s true).length := by
  rw [made_len]
  have h' : (((s.drop 1).take 15).foldl (add (num s) true) ((List.range (num s)).map glyph))[a]? = some g := h
  clear h
  have hn := num_in s
  generalize num s = n at hn h'
  have key : ∀ (l : List Int) (gl : List Gl), (∀ g ∈ gl, ∀ p ∈ g.parts, p.1 < (n : Int)) → ∀ g ∈ l.foldl (add n true) gl, ∀ p ∈ g.parts, p.1 < (n : Int) := by
    intro l
    induction l with
    | nil => intro gl h; exact h
    | cons x l ih =>
      intro gl h
      rw [List.foldl_cons]
      refine ih _ fun g hg p hp => ?_
      unfold add at hg
      split at hg
      · exact h g hg p hp
      · rcases List.mem_or_eq_of_mem_set hg with hg | rfl
        · exact h g hg p hp
        · simp only [more, List.mem_append, List.mem_singleton] at hp
          rcases hp with hp | rfl
          · rw [List.getD_eq_getElem?_getD] at hp
            cases he : gl[(x % n).toNat]? with
            | none => rw [he] at hp; cases hp
            | some g' => rw [he] at hp; exact h g' (List.mem_of_getElem? he) p hp
          · show kOf n true x < n
            unfold kOf
            rw [if_neg (fun e => by cases e.1)]
            have := Int.emod_lt_of_pos (x.tdiv 8) (show (0 : Int) < (n : Int) + 1 by omega)
            omega
  refine key _ _ (fun g hg p hp => ?_) g (List.mem_of_getElem? h')
  obtain ⟨i, _, rfl⟩ := List.mem_map.1 hg
  unfold glyph at hp
  split at hp <;> cases hp
end M4
section
variable {P : Program} {ops : Array Oper} {Q : Exit → Act → World → Prop} {S : World → Prop} {T U need : Nat → Bool}
/-- a load where S tells a font's nine cells and more -/
theorem wpSeq_loadB {i : Nat} {r : List Nat} {a : Act} {w : World} {o : Oper} {v : Value} (hT : T i = true) (ho : ops[i]? = some o) (hS : S w) (hU : U i = true) (h : wpSeq P ops Q S T U need r (a.put o.dst v) w)
    (hw : Region.wanted o (yielded ops a.tmps) = true := by kernel_rfl) (hQ : ∀ c a w, Q (.panic c) (a.put o.dst v) w → Q (.panic c) a w := by exact fun _ _ _ h => h)
    (hy : ∀ wq, S wq → (execOp a.eval o).run P wq = .ok (.value v) wq := by intro wq hq; obtain ⟨hq0, hq1, hq2, hq3, hq4, hq5, hq6, hq7, hq8, hq9, hq10⟩ := hq; first | (go_simp; done) | (go_simp; rfl)) :
    wpSeq P ops Q S T U need (i :: r) a w := wpSeq_load hT ho hw hQ hS hU hy h
end
set_option maxRecDepth 100000 in
set_option maxHeartbeats 4000000 in
theorem ahead_walk (s : List Int) (A : Option Addr) (c : Nat) (w : World) (hs : Reads w w.heap.size 1 A s.length (ints s)) (hi : ∀ x ∈ s, I64 x) :
    Calls Try.prog 3 #[.slice A s.length c] w fun e w' => e = .returned (.bool true) ∧ Below w.heap.size w w' := by
  have HS := Lib.hid hs
  have HI := Lib.hid hi
  clear hs hi
  have hmm := @run_makeMap Try.prog
  go_enter Try.func3, Try.ntmps3
  go_wp2_with fail
  refine (awake_any _).mono ?_
  rintro e w1 ⟨rfl, hg1⟩
  have HG1 := Lib.hid hg1
  clear hg1
  go_wp2_with fail
  refine (made_any s true A c w.heap.size w1 (HS.out.keep fun p hp => HG1.out.cell hp fun x => x) HI.out HG1.out.size).mono ?_
  rintro e w2 ⟨gA, gc, rfl, hf1, hg2⟩
  have hf := hf1.fat
  clear hf1
  obtain ⟨gl, hgl⟩ : ∃ gl, M4.made s true = gl := ⟨_, rfl⟩
  have hlen := M4.made_len s true
  have hnum := M4.num_in s
  have hp := M4.made_p1000 s true
  have hraw : ∀ g, (Lf.raw (M4.made s true) g).length ≤ 1000 := fun g => by
    unfold Lf.raw
    cases h : (M4.made s true)[g]? with
    | none => simp
    | some x => have := (M4.made_get s true (List.mem_of_getElem? h)).1; simp; omega
  have hlt := fun (a : Nat) (g : Gl) (h : (M4.made s true)[a]? = some g) => M4.made_in s h
  rw [hgl] at hf hlen hp hraw hlt ⊢
  have HLT := Lib.hid hlt
  clear hlt
  obtain ⟨n, hn⟩ : ∃ n, n = gl.length := ⟨_, rfl⟩
  rw [← hn] at hlen ⊢
  have hn8 : n ≤ 12 := by omega
  have HG2 := Lib.hid (HG1.out.trans hg2)
  have HF := Lib.hid hf
  have HP := Lib.hid hp
  have HN := Lib.hid hn
  have hoc := Fo.order_cases gl hraw
  clear hgl hlen hnum hp hraw hf hg2 HS HI hn HG1
  go_wp2_with fail
  obtain ⟨W3, hW3⟩ : ∃ W3, w2.alloc (.cells (Fv.cs (fvC gA n gc)) 32) = W3 := ⟨_, rfl⟩
  have hG3 : Grow w2 W3 := by rw [← hW3]; exact (Fr.refl _ _).alloc _
  have hX3 : Blk W3 w2.heap.size 32 (Fv.cs (fvC gA n gc)) := by rw [← hW3]; exact Blk.new _ _ _
  have hs3 : W3.heap.size = w2.heap.size + 1 := by rw [← hW3]; simp
  have HF3 := Lib.hid ((HF.out.keep fun p hp => hG3.cell hp fun x => x).more hG3.size)
  have HG3 := Lib.hid (HG2.out.trans hG3)
  rw [hW3]
  clear hG3 HF HG2 hW3
  refine (order_any (fvC gA n gc) gl W3 HN.out HF3.out (by have := HN.out; omega) (fvC_one _ _ _)).mono ?_
  rintro e w4 ⟨tv, rfl, hown, hb⟩
  have HX4 := Lib.hid (hX3.below hb (by omega))
  have HF4 := Lib.hid (HF3.out.below hb (Nat.le_refl _))
  have HB4 := Lib.hid ((Grow.below HG3.out (Nat.le_refl _)).trans (hb.mono HG3.out.size))
  have hs4 := hb.size
  clear hX3 hb HF3
  rcases hoc with ⟨a, eo, han, hlo⟩ | ⟨t, eo, htl, htn, htin, htord⟩
  · rw [eo] at hown ⊢
    obtain ⟨tA, tc, rfl, htc, _⟩ := owns_form hown
    obtain ⟨gg, hgg⟩ : ∃ gg, gl[a]? = some gg := ⟨_, List.getElem?_eq_getElem han⟩
    obtain ⟨b, off, qA, qc, rfl, hb, hc5, hqc, hq, hql, hqi⟩ := HF4.out.parts hgg
    obtain ⟨pl, hpl⟩ : ∃ pl, pl = gg.parts.length := ⟨_, rfl⟩
    rw [← hpl] at hc5 hqc hq hql
    have HPL := Lib.hid hpl
    have HQ := Lib.hid hq
    have HQI := Lib.hid hqi
    have HGG := Lib.hid hgg
    have HLO := Lib.hid hlo
    have HOWN := Lib.hid hown
    have hann : a < n := by have := HN.out; omega
    have y0 := HX4.out.cell 0
    have y1 := HX4.out.cell 1
    have y2 := HX4.out.cell 2
    have y3 := HX4.out.cell 3
    have y4 := HX4.out.cell 4
    have y5 := HX4.out.cell 5
    have y6 := HX4.out.cell 6
    have y7 := HX4.out.cell 7
    have y8 := HX4.out.cell 8
    have yl := HX4.out.lt
    simp only [List.getElem?_toArray, List.getElem?_cons_zero, List.getElem?_cons_succ] at y0 y1 y2 y3 y4 y5 y6 y7 y8
    have hd0 : decide ((a : Int) < 0) = false := decide_eq_false (by omega)
    have hd1 : decide (n ≤ a) = false := decide_eq_false (by omega)
    have hd2 : ¬ (a : Int) < 0 := by omega
    have hd3 : ¬ n ≤ a := by omega
    clear hpl hq hqi hgg hlo hown eo han htc
    go_wp2_with fail
    clear hd0 hd1 hd2 hd3
    go_loopw [8] (fun i wr => ∃ k : Nat, k ≤ pl ∧ i = .int .i64 k ∧ Below w4.heap.size w4 wr ∧ ∀ j, j < k → ∀ p, gg.parts[j]? = some p → (a : Int) ∉ Wk.all gl p.1) (fun i _ => pl - (intOf i).toNat)
    case atStart => exact ⟨0, Nat.zero_le _, rfl, Below.refl _ _, fun j hj => by omega⟩
    case round =>
      obtain ⟨k, hk, rfl, hbr, hno⟩ := hrel
      have HBR := Lib.hid hbr
      have HNO := Lib.hid hno
      have hc5' := (hbr.cell (p := ⟨b, off + a * 9 + 5, none⟩) (by simp only; omega)).trans hc5
      have HXR := Lib.hid (HX4.out.below hbr HX4.out.lt)
      have hsr := hbr.size
      clear y0 y1 y2 y3 y4 y5 y6 y7 y8 yl hbr hno
      have y0 := HXR.out.cell 0
      have y1 := HXR.out.cell 1
      have y2 := HXR.out.cell 2
      have y3 := HXR.out.cell 3
      have y4 := HXR.out.cell 4
      have y5 := HXR.out.cell 5
      have y6 := HXR.out.cell 6
      have y7 := HXR.out.cell 7
      have y8 := HXR.out.cell 8
      have yl := HXR.out.lt
      simp only [List.getElem?_toArray, List.getElem?_cons_zero, List.getElem?_cons_succ] at y0 y1 y2 y3 y4 y5 y6 y7 y8
      by_cases hlt : k < pl
      · obtain ⟨⟨pg, px, py⟩, hpk⟩ : ∃ p, gg.parts[k]? = some p := ⟨_, List.getElem?_eq_getElem (by have := HPL.out; omega)⟩
        obtain ⟨c1, _, _⟩ := prts_at hpk
        obtain ⟨qb, qo, hqA, hqb, hqc2⟩ := HQ.out.at_ (by omega)
        subst hqA
        have p0 := (HBR.out.cell (p := ⟨qb, qo + k * 3, none⟩) (by simp only; omega)).trans (hqc2 _ _ c1)
        have hpi := (HQI.out _ (List.mem_of_getElem? hpk)).1
        simp only at hpi p0
        have HPK := Lib.hid hpk
        have HPI := Lib.hid hpi
        clear hpk c1 hqc2 hpi
        go_wp2_with fail
        have hS : wr.drew.cell? ⟨w2.heap.size, 0, none⟩ = some (.int .i64 0) ∧ wr.drew.cell? ⟨w2.heap.size, 1, none⟩ = some (.slice (some ⟨b, off, none⟩) n gc) ∧ wr.drew.cell? ⟨w2.heap.size, 2, none⟩ = some (.slice none 0 0) ∧ wr.drew.cell? ⟨w2.heap.size, 3, none⟩ = some (.slice none 0 0) ∧ wr.drew.cell? ⟨w2.heap.size, 4, none⟩ = some (.slice none 0 0) ∧ wr.drew.cell? ⟨w2.heap.size, 5, none⟩ = some (.slice none 0 0) ∧ wr.drew.cell? ⟨w2.heap.size, 6, none⟩ = some (.slice none 0 0) ∧ wr.drew.cell? ⟨w2.heap.size, 7, none⟩ = some (.slice none 0 0) ∧ wr.drew.cell? ⟨w2.heap.size, 8, none⟩ = some (.slice none 0 0) ∧ wr.drew.cell? ⟨b, off + a * 9 + 5, none⟩ = some (.slice (some ⟨qb, qo, none⟩) pl qc) ∧ wr.drew.cell? ⟨qb, qo + k * 3, none⟩ = some (.int .i64 pg) := ⟨y0, y1, y2, y3, y4, y5, y6, y7, y8, hc5', p0⟩
        refine wp_region_seqT (fun i => !([11] : List Nat).contains i) (fun i => ([0, 2, 6, 10] : List Nat).contains i) (fun i => ([] : List Nat).contains i) [0, 1, 2, 3, 4, 5, 6, 7, 8, 9, 10, 11, 12] (fun wq : World => wq.cell? ⟨w2.heap.size, 0, none⟩ = some (.int .i64 0) ∧ wq.cell? ⟨w2.heap.size, 1, none⟩ = some (.slice (some ⟨b, off, none⟩) n gc) ∧ wq.cell? ⟨w2.heap.size, 2, none⟩ = some (.slice none 0 0) ∧ wq.cell? ⟨w2.heap.size, 3, none⟩ = some (.slice none 0 0) ∧ wq.cell? ⟨w2.heap.size, 4, none⟩ = some (.slice none 0 0) ∧ wq.cell? ⟨w2.heap.size, 5, none⟩ = some (.slice none 0 0) ∧ wq.cell? ⟨w2.heap.size, 6, none⟩ = some (.slice none 0 0) ∧ wq.cell? ⟨w2.heap.size, 7, none⟩ = some (.slice none 0 0) ∧ wq.cell? ⟨w2.heap.size, 8, none⟩ = some (.slice none 0 0) ∧ wq.cell? ⟨b, off + a * 9 + 5, none⟩ = some (.slice (some ⟨qb, qo, none⟩) pl qc) ∧ wq.cell? ⟨qb, qo + k * 3, none⟩ = some (.int .i64 pg)) (by kernel_rfl) (by kernel_rfl) (by kernel_rfl) (by kernel_rfl) ?_
        iterate 11 (first | refine wpSeq_pureA (v := _) rfl rfl rfl ?_ | refine wpSeq_loadB (v := _) rfl rfl hS rfl ?_)
        refine wpSeq_heavy rfl rfl (fun K hK => ?_); go_simp
        refine (all_any (fvC (some ⟨b, off, none⟩) n gc) gl pg wr.drew HN.out ((HF4.out.below HBR.out.drew (by omega)).more (show W3.heap.size ≤ wr.heap.size by omega)) (by have := HN.out; omega) HPI.out (fvC_one _ _ _)).mono ?_
        rintro e w5 ⟨uv, rfl, hown5, hb5⟩
        obtain ⟨L, hL⟩ : ∃ L, Wk.all gl pg = L := ⟨_, rfl⟩
        rw [hL] at hown5
        obtain ⟨ln, hln⟩ : ∃ ln, ln = L.length := ⟨_, rfl⟩
        rw [← hln] at hown5
        obtain ⟨uA, uc, rfl, huc, _⟩ := owns_form hown5
        have hl12 : ln ≤ 12 := by have h1 := Wk.all_len HP.out pg; rw [hL, ← hln] at h1; have := HN.out; omega
        have HL := Lib.hid hL
        have HLN := Lib.hid hln
        clear hL hln
        refine hK _ _ (fun h => by cases h) ?_; clear hK K
        iterate 1 (first | refine wpSeq_pureA (v := _) rfl rfl rfl ?_ | refine wpSeq_loadB (v := _) rfl rfl hS rfl ?_)
        refine wpSeq_end ?_
        have hbw5 : Below w4.heap.size w4 w5 := HBR.out.drew.trans (hb5.mono (show w4.heap.size ≤ wr.heap.size from hsr))
        have HBW5 := Lib.hid hbw5
        have HOWN5 := Lib.hid hown5
        clear hb5 hown5 hbw5 HXR hc5' p0 y0 y1 y2 y3 y4 y5 y6 y7 y8 yl hS
        go_wp2_with fail
        go_loopw [10] (fun i wq => ∃ m : Nat, m ≤ ln ∧ i = .int .i64 m ∧ wq = w5 ∧ ∀ j, j < m → ∀ x, L[j]? = some x → x ≠ (a : Int)) (fun i _ => ln - (intOf i).toNat)
        case atStart => exact ⟨0, Nat.zero_le _, rfl, rfl, fun j hj => by omega⟩
        case round =>
          obtain ⟨m, hm, rfl, rfl, hne⟩ := hrel
          by_cases hml : m < ln
          · obtain ⟨x, hx⟩ : ∃ x, L[m]? = some x := ⟨_, List.getElem?_eq_getElem (by have := HLN.out; omega)⟩
            obtain ⟨rb, rc, hv, _, _, _, hcell⟩ := owns_at HOWN5.out (by omega)
            injection hv with hv1 hv2 hv3
            subst hv1
            clear hv2 hv3
            have z0 := hcell m (.int .i64 x) (ints_at _ _ _ hx)
            have HX := Lib.hid hx
            have HNE := Lib.hid hne
            clear hx hcell hne
            by_cases hxa : x = (a : Int)
            · subst hxa
              go_wp2_with fail
              go_ret
              exact ⟨by first | rfl | trivial, HB4.out.trans (HBW5.out.mono HB4.out.size)⟩
            · go_wp2_with fail
              go_roundw
              case rel =>
                refine ⟨m + 1, by omega, by go_num, by first | rfl | trivial, fun j hj y hy => ?_⟩
                by_cases e : j = m
                · subst e; rw [HX.out] at hy; injection hy with hy; rw [← hy]; exact hxa
                · exact HNE.out j (by omega) y hy
              case measure => simp [intOf]; omega
          · have HNE := Lib.hid hne
            clear hne
            go_wp2_with fail
            go_roundw
            case rel =>
              refine ⟨k + 1, by omega, by go_num, HBW5.out, fun j hj p hp => ?_⟩
              by_cases e : j = k
              · subst e
                rw [HPK.out] at hp
                injection hp with hp
                subst hp
                intro hm
                simp only at hm
                rw [HL.out] at hm
                obtain ⟨i, hi⟩ := List.mem_iff_getElem?.1 hm
                exact HNE.out i (by have := (List.getElem?_eq_some_iff.1 hi).1; have := HLN.out; omega) _ hi rfl
              · exact HNO.out j (by omega) p hp
            case measure => simp [intOf]; omega
      · exfalso
        obtain ⟨p, hp, hr⟩ := HLO.out
        rw [Int.toNat_natCast] at hp
        obtain ⟨h1, h2⟩ := mem_psOf hp
        rw [HGG.out] at h1
        obtain ⟨i, hi⟩ := List.mem_iff_getElem?.1 h1
        have hil := (List.getElem?_eq_some_iff.1 hi).1
        have hpl := HPL.out
        exact HNO.out i (by simp only [Option.map_some, Option.getD_some] at hil; omega) p (by simpa using hi) (((Wk.all_ok HP.out h2).2 _).2 hr)
  · rw [eo] at hown ⊢
    rw [htl, ← HN.out] at hown
    obtain ⟨tA, tc, rfl, htc, _⟩ := owns_form hown
    have HOWN := Lib.hid hown
    have HTL := Lib.hid htl
    have HTN := Lib.hid htn
    have HTI := Lib.hid htin
    have HTO := Lib.hid htord
    have y0 := HX4.out.cell 0
    have y1 := HX4.out.cell 1
    have y2 := HX4.out.cell 2
    have y3 := HX4.out.cell 3
    have y4 := HX4.out.cell 4
    have y5 := HX4.out.cell 5
    have y6 := HX4.out.cell 6
    have y7 := HX4.out.cell 7
    have y8 := HX4.out.cell 8
    have yl := HX4.out.lt
    simp only [List.getElem?_toArray, List.getElem?_cons_zero, List.getElem?_cons_succ] at y0 y1 y2 y3 y4 y5 y6 y7 y8
    clear hown eo htc htl htn htin htord
    go_wp2_with fail
    have hsz4 : w4.heap.size < w4.heap.size + 1 := Nat.lt_succ_self _
    go_loopw [12] (fun i wr => ∃ k : Nat, k ≤ n ∧ i = .int .i64 k ∧ Below w4.heap.size w4 wr ∧ BMap wr w4.heap.size (fun x => decide (x ∈ t.take k))) (fun i _ => n - (intOf i).toNat)
    case atStart =>
      exact ⟨0, Nat.zero_le _, rfl, (Below.refl _ _).alloc (Nat.le_refl _) _, (BMap.new_at w4 rfl).ext fun x => by simp⟩
    case round =>
      obtain ⟨k, hk, rfl, hbr, hmp⟩ := hrel
      have HBR := Lib.hid hbr
      have HMP := Lib.hid hmp
      have HXR := Lib.hid (HX4.out.below hbr HX4.out.lt)
      have hsr := hbr.size
      clear y0 y1 y2 y3 y4 y5 y6 y7 y8 yl
      have y1 := HXR.out.cell 1
      have yl := HXR.out.lt
      simp only [List.getElem?_toArray, List.getElem?_cons_zero, List.getElem?_cons_succ] at y1
      by_cases hlt : k < n
      · obtain ⟨x, hx⟩ : ∃ x, t[k]? = some x := ⟨_, List.getElem?_eq_getElem (by have := HTL.out; have := HN.out; omega)⟩
        have hxr := HTI.out x (List.mem_of_getElem? hx)
        obtain ⟨g, rfl⟩ := Int.eq_ofNat_of_zero_le hxr.1
        have hgl : g < gl.length := by omega
        have hgn : g < n := by have := HN.out; omega
        have hsp : t = t.take k ++ (g : Int) :: t.drop (k + 1) := by
          have h1 := List.getElem?_eq_some_iff.1 hx
          obtain ⟨h1, h2⟩ := h1
          conv => lhs; rw [← List.take_append_drop k t, List.drop_eq_getElem_cons h1, h2]
        have hnk : (g : Int) ∉ t.take k := fun hm => by
          have h := HTN.out
          rw [hsp, List.nodup_append] at h
          exact h.2.2 _ hm _ List.mem_cons_self rfl
        obtain ⟨rb, rc, hv, _, hrb, hrl, hcell⟩ := owns_at HOWN.out (by omega)
        injection hv with hv1 hv2 hv3
        subst hv1
        clear hv2 hv3
        have HZ0 := Lib.hid (hcell k (.int .i64 g) (ints_at _ _ _ hx))
        have z0 := (hbr.cell (p := ⟨rb, k, none⟩) hrl).trans HZ0.out
        have zl : rb < wr.heap.size := by omega
        have hlk : ∀ j, (Instr.lookup 49 (.map (some w4.heap.size)) (.int .i64 (g : Int)) false).run Try.prog (wr.drewN j) = .ok (.bool false) (wr.drewN j) := fun j => by
          have h := (hmp.keep (w' := wr.drewN j) rfl).look g (by unfold I64; omega)
          rw [decide_eq_false hnk] at h
          exact h
        obtain ⟨gg, hgg⟩ : ∃ gg, gl[g]? = some gg := ⟨_, List.getElem?_eq_getElem hgl⟩
        obtain ⟨b, off, qA, qc, hA, hb, hc5, hqc, hq, hql, hqi⟩ := HF4.out.parts hgg
        subst hA
        obtain ⟨pl, hpl⟩ : ∃ pl, pl = gg.parts.length := ⟨_, rfl⟩
        rw [← hpl] at hc5 hqc hq hql
        have c5 := (hbr.cell (p := ⟨b, off + g * 9 + 5, none⟩) (by simp only; omega)).trans hc5
        have HC5 := Lib.hid hc5
        have HPL := Lib.hid hpl
        have HQ := Lib.hid hq
        have HQI := Lib.hid hqi
        have HGG := Lib.hid hgg
        have HX := Lib.hid hx
        have HSP := Lib.hid hsp
        have HNK := Lib.hid hnk
        have hd0 : ¬ (g : Int) < 0 := by omega
        have hd1 : ¬ n ≤ g := by omega
        have hd2 : decide ((g : Int) < 0) = false := decide_eq_false hd0
        clear hbr hmp hpl hq hqi hgg hx hsp hnk hcell hc5 hxr
        go_wp2_with fail
        go_quiet (fail)
        have hbv : Below w4.heap.size w4 (wr.drewN nq) := below_drewN HBR.out nq
        have hmv : BMap (wr.drewN nq) w4.heap.size (fun x => decide (x ∈ t.take k)) := HMP.out.keep rfl
        clear hlk z0 zl c5 y1 yl HBR HMP HXR hsr
        generalize wr.drewN nq = V at *
        go_wp2_with fail
        go_loopw [13] (fun i wq => ∃ j : Nat, j ≤ pl ∧ i = .int .i64 j ∧ Below w4.heap.size w4 wq ∧ BMap wq w4.heap.size (fun x => decide (x ∈ t.take k))) (fun i _ => pl - (intOf i).toNat)
        case atStart => exact ⟨0, Nat.zero_le _, rfl, hbv, hmv⟩
        case round =>
          obtain ⟨j, hj, rfl, hbq, hmq⟩ := hrel
          have HBQ := Lib.hid hbq
          have HMQ := Lib.hid hmq
          have c5 := (hbq.cell (p := ⟨b, off + g * 9 + 5, none⟩) (by simp only; omega)).trans HC5.out
          have HXQ := Lib.hid (HX4.out.below hbq HX4.out.lt)
          have hsq := hbq.size
          have y1 := HXQ.out.cell 1
          have yl := HXQ.out.lt
          simp only [List.getElem?_toArray, List.getElem?_cons_zero, List.getElem?_cons_succ] at y1
          have z0 := (hbq.cell (p := ⟨rb, k, none⟩) hrl).trans HZ0.out
          have zl : rb < wr.heap.size := by omega
          clear hbq hmq hbv hmv
          by_cases hjl : j < pl
          · obtain ⟨⟨pg, px, py⟩, hpk⟩ : ∃ p, gg.parts[j]? = some p := ⟨_, List.getElem?_eq_getElem (by have := HPL.out; omega)⟩
            obtain ⟨c1, _, _⟩ := prts_at hpk
            obtain ⟨qb, qo, hqA, hqb, hqc2⟩ := HQ.out.at_ (by omega)
            subst hqA
            have p0 := (HBQ.out.cell (p := ⟨qb, qo + j * 3, none⟩) (by simp only; omega)).trans (hqc2 _ _ c1)
            have hpi := (HQI.out _ (List.mem_of_getElem? hpk)).1
            simp only at hpi p0
            have HPK := Lib.hid hpk
            have HPI := Lib.hid hpi
            clear hpk c1 hqc2 hpi
            by_cases hp0 : 0 ≤ pg
            · have hin : pg ∈ t.take k := by
                have hm := List.mem_of_getElem? HPK.out
                have hlt := HLT.out g gg HGG.out _ hm
                simp only at hlt
                refine HTO.out _ _ _ HSP.out (pg, px, py) ?_
                rw [Int.toNat_natCast]
                exact List.mem_filter.2 ⟨by rw [HGG.out]; exact hm, Lf.there_in.2 ⟨hp0, hlt⟩⟩
              have hlk : ∀ j, (Instr.lookup 49 (.map (some w4.heap.size)) (.int .i64 pg) false).run Try.prog (wr.drewN j) = .ok (.bool true) (wr.drewN j) := fun j => by
                have h := (HMQ.out.keep (w' := wr.drewN j) rfl).look pg HPI.out
                rw [decide_eq_true hin] at h
                exact h
              clear hin
              go_wp2_with fail
              go_quiet (fail)
              go_wp2_with fail
              go_quiet (fail)
              go_wp2_with fail
              go_roundw
              case rel => exact ⟨j + 1, by omega, by go_num, by first | exact below_drewN HBQ.out _ | exact below_drewN (below_drewN HBQ.out _) _, HMQ.out.keep rfl⟩
              case measure => simp [intOf]; omega
            · go_wp2_with fail
              go_quiet (fail)
              go_wp2_with fail
              go_quiet (fail)
              go_wp2_with fail
              go_roundw
              case rel => exact ⟨j + 1, by omega, by go_num, by first | exact below_drewN HBQ.out _ | exact below_drewN (below_drewN HBQ.out _) _, HMQ.out.keep rfl⟩
              case measure => simp [intOf]; omega
          · go_wp2_with fail
            go_quiet (fail)
            obtain ⟨w5, m1, m2, m3, m4⟩ := (HMQ.out.keep (w' := wr.drewN nq) rfl).store g (by unfold I64; omega) true
            have HM2 := Lib.hid m2
            have HM3 := Lib.hid m3
            have HM4 := Lib.hid m4
            clear m2 m3 m4
            go_wp2_with fail
            go_roundw
            case rel =>
              refine ⟨k + 1, by omega, by go_num, (below_drewN HBQ.out nq).grown HM3.out (by have := hsq; show w4.heap.size ≤ wr.heap.size; omega) (fun b e => by injection e with e; omega), HM2.out.ext fun x => ?_⟩
              have e1 : t.take (k + 1) = t.take k ++ [(g : Int)] := by rw [List.take_add_one, HX.out]; rfl
              rw [e1]
              unfold upd
              split
              · rename_i e; simp [e]
              · rename_i e; simp [e]
            case measure => simp [intOf]; omega
      · go_wp2_with fail
        go_ret
        exact ⟨by first | rfl | trivial, HB4.out.trans (HBR.out.mono HB4.out.size)⟩
end Go.Proofs.Ytoklllbaihccnaa

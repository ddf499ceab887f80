/- The reference's Parts: its contract. Expanded from XCrA.src by expand.py. -/
import Derived.Test.YtoklllbaihccnaaCwK
set_option linter.unusedVariables false
set_option linter.unusedSimpArgs false
namespace Go.Proofs.Ytoklllbaihccnaa
open Go.RowKit Go.Shelf
theorem info_prt : (Try.prog.info? 48).map (fun i => (i.zero, i.size, i.bytes)) = some (some (.agg #[.int .i64 0, .int .i64 0, .int .i64 0]), 3, 24) := by kernel_rfl
theorem psOf_app1 (n : Nat) (l : List Prt) (p : Prt) : psOf n (l ++ [p]) = psOf n l ++ (if thereB n p.1 = true then [p] else []) := by
  unfold psOf
  rw [List.filter_append, List.filter_cons]
  rfl
theorem prts_app (l l' : List Prt) : prts (l ++ l') = prts l ++ prts l' := by simp [prts]
set_option maxRecDepth 100000 in
set_option maxHeartbeats 4000000 in
theorem rparts_any (A : Option Addr) (n c g : Nat) (gl : List Gl) (w : World) (hn : n = gl.length) (hf : FAt w w.heap.size A gl) (h12 : n ≤ 12) (hg : g < n) :
    Calls Try.prog 48 #[.agg (fvC A n c).cs, .int .i64 g] w fun e w' => ∃ v, e = .returned v ∧ w'.ownsRow w.heap.size 48 3 v (partsOf gl g).length (prts (partsOf gl g)) ∧ Below w.heap.size w w' := by
  obtain ⟨gg, hgg⟩ : ∃ gg, gl[g]? = some gg := ⟨_, List.getElem?_eq_getElem (by omega)⟩
  obtain ⟨b, off, qA, qc, rfl, hb, hc5, hqc, hq, hql, hqi⟩ := hf.parts hgg
  have hps : partsOf gl g = psOf n gg.parts := by unfold partsOf; rw [hgg, hn]; rfl
  rw [hps]
  obtain ⟨pl, hpl⟩ : ∃ pl, pl = gg.parts.length := ⟨_, rfl⟩
  rw [← hpl] at hc5 hqc hq hql
  have HPL := Lib.hid hpl
  have HQ := Lib.hid hq
  have HQI := Lib.hid hqi
  have HC5 := Lib.hid hc5
  obtain ⟨i1, hi0, hi1, hi2, hi3⟩ := info_m info_prt
  have ul : w.heap.size < w.heap.size + 1 := Nat.lt_succ_self _
  clear hpl hq hqi hc5 hf hps hgg hn
  go_enter Try.func48, Try.ntmps48
  go_wp2_with fail
  go_loopw [5, 6] (fun v i wr => ∃ k : Nat, k ≤ pl ∧ i = .int .i64 k ∧ Blk wr w.heap.size 32 (fvC (some ⟨b, off, none⟩) n c).cs ∧ wr.ownsRow w.heap.size 48 3 v (psOf n (gg.parts.take k)).length (prts (psOf n (gg.parts.take k))) ∧ Below w.heap.size w wr) (fun _ i _ => pl - (intOf i).toNat)
  case atStart => exact ⟨0, Nat.zero_le _, rfl, Blk.new _ _ _, owns_nil _ _ _ _, (Below.refl _ _).alloc (Nat.le_refl _) _⟩
  case round =>
    obtain ⟨k, hk, rfl, hX, hrow, hbr⟩ := hrel
    obtain ⟨vA, vc, rfl, hvc, _⟩ := owns_form hrow
    have hlen : (psOf n (gg.parts.take k)).length ≤ k := by unfold psOf; exact Nat.le_trans (List.length_filter_le _ _) (List.length_take_le _ _)
    obtain ⟨ps, hps⟩ : ∃ ps, psOf n (gg.parts.take k) = ps := ⟨_, rfl⟩
    rw [hps] at hrow hlen hvc ⊢
    have HPS := Lib.hid hps
    have c5 := (hbr.cell (p := ⟨b, off + g * 9 + 5, none⟩) hb).trans HC5.out
    have hbw : b < wr.heap.size := by have := hbr.size; omega
    have y1 := hX.cell 1
    have yl := hX.lt
    simp only [List.getElem?_toArray, List.getElem?_cons_zero, List.getElem?_cons_succ] at y1
    have HX := Lib.hid hX
    have HROW := Lib.hid hrow
    have HBR := Lib.hid hbr
    clear hX hrow hbr hps
    by_cases hlt : k < pl
    · obtain ⟨⟨pg, px, py⟩, hpk⟩ : ∃ p, gg.parts[k]? = some p := ⟨_, List.getElem?_eq_getElem (by have := HPL.out; omega)⟩
      obtain ⟨c1, c2, c3⟩ := prts_at hpk
      obtain ⟨qb, qo, hqA, hqb, hqc2⟩ := HQ.out.at_ (by omega)
      subst hqA
      have p0 := (HBR.out.cell (p := ⟨qb, qo + k * 3, none⟩) hqb).trans (hqc2 _ _ c1)
      have p1 := (HBR.out.cell (p := ⟨qb, qo + (k * 3 + 1), none⟩) hqb).trans (hqc2 _ _ c2)
      have p2 := (HBR.out.cell (p := ⟨qb, qo + (k * 3 + 2), none⟩) hqb).trans (hqc2 _ _ c3)
      simp only [← Nat.add_assoc] at p0 p1 p2
      have hqw : qb < wr.heap.size := by have := HBR.out.size; omega
      have htk : gg.parts.take (k + 1) = gg.parts.take k ++ [(pg, px, py)] := by rw [List.take_add_one, hpk]; rfl
      have HTK := Lib.hid htk
      clear hpk c1 c2 c3 hqc2 htk
      by_cases h0 : 0 ≤ pg
      · by_cases h1 : pg < n
        · have ht : thereB n pg = true := by simp [thereB]; omega
          have HT := Lib.hid ht
          have HG2 := Lib.hid (((Fr.refl (fun _ => False) wr).alloc (.cells #[.int .i64 pg, .int .i64 px, .int .i64 py] 48)).alloc (.cells #[.int .i64 pg, .int .i64 px, .int .i64 py] 48))
          clear ht
          go_wp2_with (at_builtin; go_loud (refine wpList_append_any _ rfl (.tmp 39) (.tmp 41) _ rfl w.heap.size 48 i1 _ 3 24 Try.underlying40 hi0 hi1 hi2 hi3 rfl (by decide) (.slice vA ps.length vc) ps.length (prts ps) rfl (owns_grow HROW.out HG2.out) _ _ 1 1 [.int .i64 pg, .int .i64 px, .int .i64 py] rfl (Reads.blk (cs := [.int .i64 pg, .int .i64 px, .int .i64 py]) (Blk.new_at _ _ _ (by simp only [World.size_alloc])) 3 1 rfl) (by simp [Value.oneCell']) (by unfold maxLen; omega) (by omega) (by have := HG2.out.size; have := HBR.out.size; omega) ?_); intro v' w6 hrow hg hnew; have HRW := Lib.hid hrow; have HGG := Lib.hid hg; clear hrow hg hnew)
          go_roundw
          case rel =>
            have hk6 := grown_others (owns_grow HROW.out HG2.out) HGG.out
            have hps2 : psOf n (gg.parts.take (k + 1)) = ps ++ [(pg, px, py)] := by rw [HTK.out, psOf_app1, if_pos HT.out, HPS.out]
            refine ⟨k + 1, by omega, by go_num, hk6 _ _ _ (HG2.out.blk HX.out fun x => x) (by decide), ?_, (HBR.out.trans (Grow.below HG2.out HBR.out.size)).grown HGG.out (Nat.le_trans HBR.out.size HG2.out.size) (fun b e => ?_)⟩
            · rw [hps2, prts_app, List.length_append, List.length_singleton]
              exact HRW.out
            · exact (owns_block HROW.out e).1
          case measure => simp [intOf]; omega
        · have ht : thereB n pg = false := by simp [thereB]; omega
          have HT := Lib.hid ht
          clear ht
          go_wp2_with fail
          go_roundw
          case rel => exact ⟨k + 1, by omega, by go_num, HX.out.alloc _, by rw [HTK.out, psOf_app1, if_neg (by rw [HT.out]; decide), List.append_nil, HPS.out]; exact owns_grow HROW.out ((Fr.refl _ _).alloc _), HBR.out.alloc HBR.out.size _⟩
          case measure => simp [intOf]; omega
      · have ht : thereB n pg = false := by simp [thereB]; omega
        have HT := Lib.hid ht
        clear ht
        go_wp2_with fail
        go_roundw
        case rel => exact ⟨k + 1, by omega, by go_num, HX.out.alloc _, by rw [HTK.out, psOf_app1, if_neg (by rw [HT.out]; decide), List.append_nil, HPS.out]; exact owns_grow HROW.out ((Fr.refl _ _).alloc _), HBR.out.alloc HBR.out.size _⟩
        case measure => simp [intOf]; omega
    · obtain rfl : k = pl := by omega
      go_wp2_with fail
      go_ret
      have h := HPS.out
      rw [HPL.out, List.take_length] at h
      rw [h]
      exact ⟨_, rfl, HROW.out, HBR.out⟩
end Go.Proofs.Ytoklllbaihccnaa

/- slices.Clone of points and ints; outline.Moved. Expanded from XCoS.src by expand.py. -/
import Derived.Test.YtoklllbaihccnaaCoR
set_option linter.unusedVariables false
set_option linter.unusedSimpArgs false
namespace Go.Proofs.Ytoklllbaihccnaa
open Go.RowKit Go.Shelf
def ClPost (w : World) (t : TypeId) (size n : Nat) (xs : List Value) (e : Ending) (w' : World) : Prop := ∃ v, e = .returned v ∧ w'.ownsRow w.heap.size t size v n xs ∧ Grow w w'
theorem info_point : (Try.prog.info? 59).map (fun i => (i.zero, i.size, i.bytes)) = some (some (.agg #[.int .i64 0, .int .i64 0, .bool false]), 3, 24) := by kernel_rfl
set_option maxRecDepth 100000 in
theorem clone_int (w : World) (A : Option Addr) (n c B : Nat) (xs : List Value) (hr : Reads w B 1 A n xs) (h1 : ∀ u ∈ xs, u.oneCell' = true) (hn : n ≤ 1000000000000) :
    Calls Try.prog 55 #[.slice A n c] w (ClPost w 3 1 n xs) := by
  obtain ⟨i0, hi0, hi1, hi2, hi3⟩ := info_m info_int
  have q0 : ∀ (w : World) (a : Option Addr) (n c n' c' : Nat), (binOp .eql 22 (.slice a n c) (.slice none n' c')).run Try.prog w = .ok (.bool a.isNone) w := fun w a n c n' c' => Lib.run_eql_slice_nil w _ _ a n c n' c' Try.underlying22
  have HR := Lib.hid hr
  have H1 := Lib.hid h1
  have HN := Lib.hid hn
  clear hr h1 hn
  rcases A with _ | ad
  · have hn0 : n = 0 := by
      rcases Nat.eq_zero_or_pos n with h | h
      · exact h
      · obtain ⟨b, off, e, _⟩ := HR.out.2 h; cases e
    subst hn0
    have hx : xs = [] := List.eq_nil_of_length_eq_zero (by simpa using HR.out.1)
    subst hx
    go_enter Try.func55, Try.ntmps55
    go_wp2
    go_ret
    exact ⟨_, rfl, owns_nil _ _ _ _, Fr.refl _ _⟩
  · have HR2 : Hid (∃ B, Reads (w.alloc (.cells #[] 3)) B 1 (some ad) n xs) := Lib.hid (by
      rcases Nat.eq_zero_or_pos n with h | h
      · subst h
        have hx : xs = [] := List.eq_nil_of_length_eq_zero (by simpa using HR.out.1)
        subst hx
        exact ⟨0, Reads.none_⟩
      · obtain ⟨b, off, e, hb, hc⟩ := HR.out.2 h
        have hb0 : b < w.heap.size := by
          have hl : 0 < xs.length := by rw [HR.out.1]; exact Nat.mul_pos h (by decide)
          have := hc 0 xs[0] (List.getElem?_eq_getElem hl)
          rcases Nat.lt_or_ge b w.heap.size with hlt | hge
          · exact hlt
          · rw [Nat.add_zero] at this
            simp [World.cell?, Array.getElem?_eq_none hge] at this
        exact ⟨B, HR.out.1, fun _ => ⟨b, off, e, hb, fun j u hu => (World.cell?_alloc_lt w _ _ hb0).trans (hc j u hu)⟩⟩)
    have hOE : (w.alloc (.cells #[] 3)).ownsRow w.heap.size 3 1 (.slice (some ⟨w.heap.size, 0, none⟩) 0 0) 0 [] := owns_empty (Blk.new _ _ _) (Nat.le_refl _)
    have HOE := Lib.hid hOE
    clear hOE
    obtain ⟨B2, hR2⟩ := HR2.out
    have HR3 := Lib.hid hR2
    clear hR2 HR2 HR
    go_enter Try.func55, Try.ntmps55
    go_wp2_with (at_builtin; refine wpList_append_any _ rfl (.tmp 5) (.tmp 6) _ rfl w.heap.size 3 i0 _ 1 8 Try.underlying22 hi0 hi1 hi2 hi3 rfl (show 0 < 1 by decide) (.slice (some ⟨w.heap.size, 0, none⟩) 0 0) 0 [] rfl HOE.out B2 _ n _ xs rfl HR3.out H1.out (by have := HN.out; unfold maxLen; omega) (by have := HN.out; omega) (by simp) ?_; intro v' w' ho hg _)
    go_ret
    refine ⟨_, rfl, by simpa using ho, grow_of_grown ((Fr.refl _ w).alloc _) hg (fun g e => ?_)⟩
    simp only [Value.ownBlock, Option.some.injEq] at e
    omega
set_option maxRecDepth 100000 in
theorem clone_point (w : World) (A : Option Addr) (n c B : Nat) (xs : List Value) (hr : Reads w B 3 A n xs) (h1 : ∀ u ∈ xs, u.oneCell' = true) (hn : n ≤ 1000000000000) :
    Calls Try.prog 54 #[.slice A n c] w (ClPost w 59 3 n xs) := by
  obtain ⟨i0, hi0, hi1, hi2, hi3⟩ := info_m info_point
  have q0 : ∀ (w : World) (a : Option Addr) (n c n' c' : Nat), (binOp .eql 37 (.slice a n c) (.slice none n' c')).run Try.prog w = .ok (.bool a.isNone) w := fun w a n c n' c' => Lib.run_eql_slice_nil w _ _ a n c n' c' Try.underlying37
  have HR := Lib.hid hr
  have H1 := Lib.hid h1
  have HN := Lib.hid hn
  clear hr h1 hn
  rcases A with _ | ad
  · have hn0 : n = 0 := by
      rcases Nat.eq_zero_or_pos n with h | h
      · exact h
      · obtain ⟨b, off, e, _⟩ := HR.out.2 h; cases e
    subst hn0
    have hx : xs = [] := List.eq_nil_of_length_eq_zero (by simpa using HR.out.1)
    subst hx
    go_enter Try.func54, Try.ntmps54
    go_wp2
    go_ret
    exact ⟨_, rfl, owns_nil _ _ _ _, Fr.refl _ _⟩
  · have HR2 : Hid (∃ B, Reads (w.alloc (.cells #[] 59)) B 3 (some ad) n xs) := Lib.hid (by
      rcases Nat.eq_zero_or_pos n with h | h
      · subst h
        have hx : xs = [] := List.eq_nil_of_length_eq_zero (by simpa using HR.out.1)
        subst hx
        exact ⟨0, Reads.none_⟩
      · obtain ⟨b, off, e, hb, hc⟩ := HR.out.2 h
        have hb0 : b < w.heap.size := by
          have hl : 0 < xs.length := by rw [HR.out.1]; exact Nat.mul_pos h (by decide)
          have := hc 0 xs[0] (List.getElem?_eq_getElem hl)
          rcases Nat.lt_or_ge b w.heap.size with hlt | hge
          · exact hlt
          · rw [Nat.add_zero] at this
            simp [World.cell?, Array.getElem?_eq_none hge] at this
        exact ⟨B, HR.out.1, fun _ => ⟨b, off, e, hb, fun j u hu => (World.cell?_alloc_lt w _ _ hb0).trans (hc j u hu)⟩⟩)
    have hOE : (w.alloc (.cells #[] 59)).ownsRow w.heap.size 59 3 (.slice (some ⟨w.heap.size, 0, none⟩) 0 0) 0 [] := owns_empty (Blk.new _ _ _) (Nat.le_refl _)
    have HOE := Lib.hid hOE
    clear hOE
    obtain ⟨B2, hR2⟩ := HR2.out
    have HR3 := Lib.hid hR2
    clear hR2 HR2 HR
    go_enter Try.func54, Try.ntmps54
    go_wp2_with (at_builtin; refine wpList_append_any _ rfl (.tmp 5) (.tmp 6) _ rfl w.heap.size 59 i0 _ 3 24 Try.underlying37 hi0 hi1 hi2 hi3 rfl (show 0 < 3 by decide) (.slice (some ⟨w.heap.size, 0, none⟩) 0 0) 0 [] rfl HOE.out B2 _ n _ xs rfl HR3.out H1.out (by have := HN.out; unfold maxLen; omega) (by have := HN.out; omega) (by simp) ?_; intro v' w' ho hg _)
    go_ret
    refine ⟨_, rfl, by simpa using ho, grow_of_grown ((Fr.refl _ w).alloc _) hg (fun g e => ?_)⟩
    simp only [Value.ownBlock, Option.some.injEq] at e
    omega
abbrev P3 := Int × Int × Bool
def mvP (x y : Int) (p : P3) : P3 := (wrap64 (p.1 + x), wrap64 (p.2.1 + y), p.2.2)
theorem opts_set {l : List P3} {i : Nat} {p : P3} (h : l[i]? = some p) (a b : Int) : ((opts l).set (i * 3) (.int .i64 a)).set (i * 3 + 1) (.int .i64 b) = opts (l.set i (a, b, p.2.2)) := by
  induction l generalizing i with
  | nil => simp at h
  | cons q l ih =>
    cases i with
    | zero =>
      simp only [List.getElem?_cons_zero, Option.some.injEq] at h
      subst h
      rfl
    | succ i =>
      have := ih (i := i) (by simpa using h)
      rw [show (i + 1) * 3 = i * 3 + 1 + 1 + 1 by omega]
      simp only [opts, List.flatMap_cons, List.set_cons_succ, List.cons_append, List.nil_append] at this ⊢
      rw [this]
theorem opts_one (l : List P3) : ∀ u ∈ opts l, u.oneCell' = true := by
  intro u hu
  simp only [opts, List.mem_flatMap] at hu
  obtain ⟨p, _, h⟩ := hu
  simp only [List.mem_cons, List.not_mem_nil, or_false] at h
  rcases h with rfl | rfl | rfl <;> rfl
theorem take_mv {l : List P3} {k : Nat} {p : P3} (f : P3 → P3) (h : l[k]? = some p) : ((l.take k).map f ++ l.drop k).set k (f p) = (l.take (k + 1)).map f ++ l.drop (k + 1) ∧ ((l.take k).map f ++ l.drop k)[k]? = some p := by
  have hk : k < l.length := (List.getElem?_eq_some_iff.1 h).1
  have hd : l.drop k = p :: l.drop (k + 1) := by
    rw [List.drop_eq_getElem_cons hk]
    rw [List.getElem?_eq_getElem hk] at h
    injection h with h
    rw [h]
  have hl : ((l.take k).map f).length = k := by simp; omega
  rw [hd]
  refine ⟨?_, ?_⟩
  · rw [List.set_append_right _ _ (by omega), hl, Nat.sub_self, List.set_cons_zero, List.take_add_one, h]
    simp
  · rw [List.getElem?_append_right (by omega), hl, Nat.sub_self]; rfl
theorem owns_setRow {w : World} {base size n c g : Nat} {t : TypeId} {xs : List Value} (h : w.ownsRow base t size (.slice (some ⟨g, 0, none⟩) n c) n xs) (j : Nat) (u : Value) : (w.setCell ⟨g, j, none⟩ u).ownsRow base t size (.slice (some ⟨g, 0, none⟩) n c) n (xs.set j u) := by
  rcases h.2 with ⟨hv, _⟩ | ⟨g', cap, cur, hv, hb, hh, h1, h2, h3, h4⟩
  · cases hv
  · cases hv
    have hk : Blk w g t cur := hh
    refine ⟨by rw [List.length_set]; exact h.1, .inr ⟨g, c, cur.setIfInBounds j u, rfl, hb, hk.set_ j u, h1, h2, by rw [Array.size_setIfInBounds]; exact h3, ?_⟩⟩
    rw [Array.toList_setIfInBounds, List.take_set, h4]
set_option maxRecDepth 100000 in
set_option maxHeartbeats 4000000 in
theorem moved_any (pA eA : Option Addr) (np ne pc ec B : Nat) (pts : List P3) (ends : List Int) (x y : Int) (w : World) (hp : Reads w B 3 pA np (opts pts)) (he : Reads w B 1 eA ne (ints ends)) (hpn : np ≤ 100000000) (hen : ne ≤ 100000000) (hpl : pts.length = np) (hel : ends.length = ne) (hB : B ≤ w.heap.size) :
    Calls Try.prog 36 #[.agg #[.slice pA np pc, .slice eA ne ec], .int .i64 x, .int .i64 y] w fun e w' => ∃ pv ev, e = .returned (.agg #[pv, ev]) ∧ w'.ownsRow w.heap.size 59 3 pv np (opts (pts.map (mvP x y))) ∧ w'.ownsRow w.heap.size 3 1 ev ne (ints ends) ∧ Grow w w' := by
  have HP := Lib.hid hp
  have HE := Lib.hid he
  have HPL := Lib.hid hpl
  have HEL := Lib.hid hel
  clear hp he hpl hel
  go_enter Try.func36, Try.ntmps36
  go_wp2_with fail
  obtain ⟨W0, hW0⟩ : ∃ W0, ((w.alloc (.cells #[.slice pA np pc, .slice eA ne ec] 39)).alloc (.cells #[.slice none 0 0, .slice none 0 0] 39)) = W0 := ⟨_, rfl⟩
  have hg0 : Grow w W0 := by rw [← hW0]; exact ((Fr.refl _ _).alloc _).alloc _
  have hs0 : W0.heap.size = w.heap.size + 2 := by rw [← hW0]; simp
  have hb3 : Blk W0 w.heap.size 39 #[.slice pA np pc, .slice eA ne ec] := by rw [← hW0]; exact (Blk.new _ _ _).alloc _
  have hb6 : Blk W0 (w.heap.size + 1) 39 #[.slice none 0 0, .slice none 0 0] := by rw [← hW0]; exact Blk.new_at _ _ _ (by simp)
  rw [hW0]
  have HG0 := Lib.hid hg0
  have HS0 := Lib.hid hs0
  have HB3 := Lib.hid hb3
  have HB6 := Lib.hid hb6
  refine (clone_point W0 pA np pc B _ (HP.out.keep fun p h => (hg0.below hB).cell h) (opts_one _) (by omega)).mono ?_
  rintro e W1 ⟨pv, rfl, hpo, hg1⟩
  obtain ⟨vA, vc, rfl, hvc, hvm⟩ := owns_form hpo
  have HPO := Lib.hid hpo
  have HG1 := Lib.hid hg1
  clear hpo hg1 hb3 hb6 hg0 hs0 hW0
  go_wp2_with fail
  go_loopw [14] (fun i wr => ∃ k : Nat, k ≤ np ∧ i = .int .i64 k ∧ wr.ownsRow W0.heap.size 59 3 (.slice vA np vc) np (opts ((pts.take k).map (mvP x y) ++ pts.drop k)) ∧ Grow W0 wr) (fun i _ => np - (intOf i).toNat)
  case atStart => exact ⟨0, Nat.zero_le _, rfl, by simpa using HPO.out, HG1.out⟩
  case round =>
    obtain ⟨k, hk, rfl, hro, hgr⟩ := hrel
    have HRO := Lib.hid hro
    have HGR := Lib.hid hgr
    by_cases hlt : k < np
    · obtain ⟨p, hp⟩ : ∃ p, pts[k]? = some p := ⟨_, List.getElem?_eq_getElem (by have := HPL.out; omega)⟩
      obtain ⟨e1, e2⟩ := take_mv (mvP x y) hp
      obtain ⟨c1, c2, c3⟩ := opts_at e2
      obtain ⟨g, c, hv, _, hgb, hgl, hcell⟩ := owns_at hro (by omega)
      injection hv with hv1 _ hv3
      subst hv1
      subst hv3
      obtain ⟨_, _, cs, hcs⟩ := owns_block hro rfl
      have z1 := hcell _ _ c1
      have z2 := hcell _ _ c2
      have f1 := hcs.frozen (k * 3)
      have f2 := hcs.frozen (k * 3 + 1)
      have hst := owns_setRow (owns_setRow hro (k * 3) (.int .i64 (mvP x y p).1)) (k * 3 + 1) (.int .i64 (mvP x y p).2.1)
      rw [opts_set e2] at hst
      have e1' : ((pts.take k).map (mvP x y) ++ pts.drop k).set k ((mvP x y p).1, (mvP x y p).2.1, p.2.2) = (pts.take (k + 1)).map (mvP x y) ++ pts.drop (k + 1) := e1
      rw [e1'] at hst
      have HST := Lib.hid hst
      have HGB := Lib.hid hgb
      obtain ⟨px, py, po⟩ := p
      clear hro hgr hp e1 e2 e1' c1 c2 c3 hcell hcs hst hgb
      simp only [mvP] at HST z1 z2
      go_wp2_with fail
      go_roundw
      case rel =>
        exact ⟨k + 1, by omega, by go_num, HST.out, (HGR.out.setCell (p := ⟨g, k * 3, none⟩) (.inr HGB.out) _).setCell (p := ⟨g, k * 3 + 1, none⟩) (.inr HGB.out) _⟩
      case measure => simp [intOf]; omega
    · have hkn : k = np := by omega
      clear hro hgr
      have b3 := (HGR.out.blk HB3.out fun x => x).cell 1
      have b6 := HGR.out.blk HB6.out fun x => x
      have l3 := (HGR.out.blk HB3.out fun x => x).lt
      simp only [List.getElem?_toArray, List.getElem?_cons_zero, List.getElem?_cons_succ] at b3
      have HB6b := Lib.hid b6
      clear b6
      go_wp2_with fail
      have hgw : Grow w wr := HG0.out.trans HGR.out
      refine (clone_int wr eA ne ec B _ (HE.out.keep fun p h => (hgw.below hB).cell h) (ints_one _) (by omega)).mono ?_
      rintro e W2 ⟨ev, rfl, heo, hg2⟩
      obtain ⟨xA, xc, rfl, hxc, hxm⟩ := owns_form heo
      have b6 := hg2.blk HB6b.out fun x => x
      have t0 := b6.cell 0
      have t1 := b6.cell 1
      have tl := b6.lt
      have tf0 := b6.frozen 0
      have tf1 := b6.frozen 1
      simp only [List.getElem?_toArray, List.getElem?_cons_zero, List.getElem?_cons_succ] at t0 t1
      have HEO := Lib.hid heo
      have HG2 := Lib.hid hg2
      have HB6c := Lib.hid b6
      clear heo hg2 b6 hgw
      go_wp2_with fail
      have hb7 := (HB6c.out.set_ 0 (.slice vA np vc)).set_ 1 (.slice xA ne xc)
      have k0 := hb7.cell 0
      have k1 := hb7.cell 1
      simp at k0 k1
      subst hkn
      have hro := HRO.out
      rw [List.take_of_length_le (by have := HPL.out; omega), List.drop_eq_nil_of_le (by have := HPL.out; omega), List.append_nil] at hro
      have hgt : Grow w ((W2.setCell ⟨w.heap.size + 1, 0, none⟩ (.slice vA k vc)).setCell ⟨w.heap.size + 1, 1, none⟩ (.slice xA ne xc)) := (((HG0.out.trans HGR.out).trans HG2.out).setCell (p := ⟨w.heap.size + 1, 0, none⟩) (.inr (by simp)) _).setCell (p := ⟨w.heap.size + 1, 1, none⟩) (.inr (by simp)) _
      have hbx := HB6c.out.set_ 0 (.slice vA k vc)
      refine bodyPost_ret (v := .agg #[.slice vA k vc, .slice xA ne xc]) (by simp [results, Try.results36, go_sem, k0, k1]) rfl ⟨_, _, rfl, ?_, ?_, hgt⟩
      · exact owns_mono (owns_set (owns_set (owns_grow hro HG2.out) HB6c.out (by decide) 0 _) hbx (by decide) 1 _) (by have := HS0.out; omega)
      · exact owns_mono (owns_set (owns_set HEO.out HB6c.out (by decide) 0 _) hbx (by decide) 1 _) (by have := HS0.out; have := HGR.out.size; omega)
end Go.Proofs.Ytoklllbaihccnaa

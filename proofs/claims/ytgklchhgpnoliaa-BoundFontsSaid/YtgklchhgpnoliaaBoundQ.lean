/- BoundBack's walk. -/
import Derived.Test.YtgklchhgpnoliaaBoundP
import Derived.Test.YtgklchhgpnoliaaBackLaw
namespace Go.Proofs.Ytgklchhgpnoliaa
open Go.RowKit
attribute [local go_sem] i64_mask16

theorem back_at (n at_ : Nat) (far : Int) (k : Nat) (ha : at_ ≤ n) (hk : k ≤ n) : (Bd.backCode n at_ far)[k]? = some (if k = at_ then (35, far) else (2, 0)) := by
  unfold Bd.backCode
  rcases Nat.lt_trichotomy k at_ with h | h | h
  · rw [List.getElem?_append_left (by simpa using h), List.getElem?_replicate, if_pos h, if_neg (by omega)]
  · subst h
    rw [List.getElem?_append_right (by simp)]; simp
  · rw [List.getElem?_append_right (by simp; omega)]
    obtain ⟨m, hm⟩ : ∃ m, k - at_ = m + 1 := ⟨k - at_ - 1, by omega⟩
    simp only [List.length_replicate, hm, List.getElem?_cons_succ]
    rw [List.getElem?_replicate, if_pos (by omega), if_neg (by omega)]
theorem back_len (n at_ : Nat) (far : Int) (ha : at_ ≤ n) : (Bd.backCode n at_ far).length = n + 1 := by simp [Bd.backCode]; omega

/-- a cell of an owned row: it may be written, and the row is owned still -/
theorem own_set {w : World} {base : Nat} {e : TypeId} {size n j : Nat} {v : Value} {xs : List Value} (h : w.ownsRow base e size v n xs) (hj : j < n * size) :
    ∃ g cap, v = .slice (some ⟨g, 0, none⟩) n cap ∧ base ≤ g ∧ g < w.heap.size ∧ w.cell? ⟨g, j, none⟩ = xs[j]? ∧ w.frozen? ⟨g, j, none⟩ = false ∧ ∀ u, (w.setCell ⟨g, j, none⟩ u).ownsRow base e size v n (xs.set j u) := by
  obtain ⟨h0, h | ⟨g, cap, cur, rfl, hg, hh, hc1, hc2, hc3, hc4⟩⟩ := h
  · obtain ⟨_, rfl⟩ := h; simp at hj
  · have hb : Blk w g e cur := hh
    refine ⟨g, cap, rfl, hg, hb.lt, ?_, hb.frozen j, fun u => ⟨by simpa using h0, .inr ⟨g, cap, _, rfl, hg, hb.set_ j u, hc1, hc2, by simpa using hc3, ?_⟩⟩⟩
    · rw [hb.cell, ← hc4, List.getElem?_take, if_pos hj]; simp
    · rw [Array.toList_setIfInBounds, List.take_set, hc4]
theorem i64_mask5 (n : Int) : bits .and .i64 n 31 = n % 32 := by
  have h : (BitVec.ofInt 64 31).toNat = 2 ^ 5 - 1 := by decide
  have key : (BitVec.ofInt 64 n &&& BitVec.ofInt 64 31).toNat = (n % ((2 ^ 64 : Nat) : Int)).toNat % 2 ^ 5 := by
    rw [BitVec.toNat_and, BitVec.toNat_ofInt, h, Nat.and_two_pow_sub_one_eq_mod]
  show IntKind.i64.wrap ((BitVec.ofInt 64 n &&& BitVec.ofInt 64 31).toNat : Nat) = n % 32
  rw [key, IntKind.wrap_i64]
  omega
attribute [local go_sem] i64_mask5
theorem rows_info : (Try.prog.info? 22).map (fun i => (i.zero, i.size, i.bytes)) = some (some (.slice none 0 0), 1, 24) := by kernel_rfl

def InvC (X : World) (n : Nat) (v i : Value) (wr : World) : Prop :=
  ∃ (k : Nat), k ≤ n ∧ i = .int .i64 k ∧ wr.ownsRow X.heap.size 22 1 v k (List.replicate k (.slice none 0 0)) ∧ Below X.heap.size X wr

def InvB (w : World) (l : List (Int × Int)) (n : Nat) (v i : Value) (wr : World) : Prop :=
  ∃ (k : Nat), k ≤ n ∧ i = .int .i64 k ∧ wr.ownsRow w.heap.size 25 2 v k (insCells (l.take k)) ∧ Below w.heap.size w wr

set_option maxHeartbeats 1000000 in
set_option maxRecDepth 8000 in
theorem boundBack_walk (far n0 w0 w1' : Int) (w : World) :
    Calls Try.prog 4 #[.int .i64 far, .int .i64 n0, .agg #[.int .i64 w0, .int .i64 w1']] w fun e w' => e = .returned (.bool true) ∧ Below w.heap.size w w' := by
  obtain ⟨i0, hi, hz0, hz1, hz2⟩ := info_parts ins_info
  obtain ⟨i1, ji, jz0, jz1, jz2⟩ := info_parts rows_info
  go_enter Try.func4, Try.ntmps4
  go_wp2_with fail
  refine (shown_any _).mono ?_
  obtain ⟨X, hX⟩ : ∃ X, X = w.alloc (.cells #[.int .i64 w0, .int .i64 w1'] 33) := ⟨_, rfl⟩
  rw [← hX]
  have hXb : Below w.heap.size w X := by rw [hX]; exact (Below.refl _ _).alloc (Nat.le_refl _) _
  have hXz : X.heap.size = w.heap.size + 1 := by rw [hX]; simp
  have hXk : Blk X w.heap.size 33 #[.int .i64 w0, .int .i64 w1'] := by rw [hX]; exact Blk.new _ _ _
  clear hX
  rintro e w1 ⟨rfl, hb1⟩
  have hlX : w.heap.size < X.heap.size := by omega
  have hk1 := hXk.below hb1 hlX
  have c0 := hk1.cell 0
  have c1 := hk1.cell 1
  simp only [List.getElem?_toArray, List.getElem?_cons_zero, List.getElem?_cons_succ] at c0 c1
  clear hk1
  obtain ⟨N, hN, hN30⟩ : ∃ N : Nat, n0 % 65536 % 31 = N ∧ N ≤ 30 := ⟨(n0 % 65536 % 31).toNat, by omega, by omega⟩
  obtain ⟨P, hP, hPN⟩ : ∃ P : Nat, w0 % 65536 % ((N : Int) + 1) = P ∧ P ≤ N := by
    have h1 := Int.emod_nonneg (w0 % 65536) (show (N : Int) + 1 ≠ 0 by omega)
    have h2 := Int.emod_lt_of_pos (w0 % 65536) (show (0 : Int) < (N : Int) + 1 by omega)
    exact ⟨(w0 % 65536 % ((N : Int) + 1)).toNat, by omega, by omega⟩
  have hz := hb1.size
  have g0 : (0 : Int) ≤ w0 % 65536 := by omega
  go_wp2_with fail
  rw [hN, hP]
  have hlaw := Bd.code_back N P far hN30 hPN
  have HLEN := Lib.hid (back_len N P far hPN)
  have HAT := Lib.hid (fun k hk => back_at N P far k hPN hk)
  generalize Bd.backCode N P far = l at *
  have HLAW := Lib.hid hlaw
  have HXK := Lib.hid hXk
  have HN := Lib.hid hN
  have HP := Lib.hid hP
  clear hlaw hXk hN hP g0 c0 c1
  go_loopw [9, 10] (fun v i wr => InvB X l (N + 1) v i wr) (fun _ i _ => N + 1 - (intOf i).toNat)
  case atStart => exact ⟨0, by omega, rfl, own_empty w1 _ 2 _ hz, hb1.alloc hz _⟩
  case round =>
    obtain ⟨k, hk, rfl, hown, hb⟩ := hrel
    obtain ⟨A', c', rfl, hrd⟩ := own_form hown
    have HOWN := Lib.hid hown
    have HRD := Lib.hid hrd
    have hsz := hb.size
    clear hown hrd
    by_cases hlt : k ≤ N
    · have hel := HAT.out k hlt
      by_cases hkp : k = P
      · subst hkp
        rw [if_pos rfl] at hel
        have htk : l.take (k + 1) = l.take k ++ [(35, far)] := by rw [List.take_add_one, hel]; rfl
        have HTK := Lib.hid htk
        have hown2 : ((wr.alloc (.cells #[.int .i64 35, .int .i64 far] 25)).alloc (.cells #[.int .i64 35, .int .i64 far] 25)).ownsRow X.heap.size 25 2 (.slice A' k c') k (insCells (l.take k)) := ownsRow_below HOWN.out (((Below.refl _ _).alloc (Nat.le_refl _) _).alloc (by simp) _) (Nat.le_refl _)
        have HOWN2 := Lib.hid hown2
        have hrs := Reads.one_new (wr.alloc (.cells #[.int .i64 35, .int .i64 far] 25)) 25 [.int .i64 35, .int .i64 far]
        simp only [World.size_alloc] at hrs
        have HRS := Lib.hid hrs
        clear hown2 hrs hel htk
        go_wp2_with (at_builtin; refine wpList_append_any _ rfl (.tmp 44) (.tmp 46) _ rfl X.heap.size 25 i0 _ 2 16 Try.underlying22 hi hz0 hz1 hz2 rfl (by omega) (.slice A' k c') k (insCells (l.take k)) rfl HOWN2.out (wr.heap.size + 1 + 1) (some ⟨wr.heap.size + 1, 0, none⟩) 1 1 [.int .i64 35, .int .i64 far] rfl HRS.out (by simp [Value.oneCell']) (by unfold maxLen; omega) (by omega) (by simp; omega) ?_; intro v' w5 hown5 hg5 hat5)
        refine ⟨⟨k + 1, by omega, by go_num, ?_, ?_⟩, by simp [intOf]; omega⟩
        · rw [HTK.out, insCells_app]; exact hown5
        · refine Below.grown ((hb.alloc hsz _).alloc (by simp; omega) _) hg5 (by simp; omega) ?_
          intro g hg
          rcases HOWN.out.2 with ⟨h, _⟩ | ⟨g', _, _, h, hle, _⟩
          · rw [h] at hg; simp [Value.ownBlock] at hg
          · rw [h] at hg; simp [Value.ownBlock] at hg; omega
      · rw [if_neg hkp] at hel
        have htk : l.take (k + 1) = l.take k ++ [(2, 0)] := by rw [List.take_add_one, hel]; rfl
        have HTK := Lib.hid htk
        have hown2 : ((wr.alloc (.cells #[.int .i64 2, .int .i64 0] 25)).alloc (.cells #[.int .i64 2, .int .i64 0] 25)).ownsRow X.heap.size 25 2 (.slice A' k c') k (insCells (l.take k)) := ownsRow_below HOWN.out (((Below.refl _ _).alloc (Nat.le_refl _) _).alloc (by simp) _) (Nat.le_refl _)
        have HOWN2 := Lib.hid hown2
        have hrs := Reads.one_new (wr.alloc (.cells #[.int .i64 2, .int .i64 0] 25)) 25 [.int .i64 2, .int .i64 0]
        simp only [World.size_alloc] at hrs
        have HRS := Lib.hid hrs
        have hkb : ((k : Int) == (P : Int)) = false := by simpa using (by omega : ¬ (k : Int) = P)
        clear hown2 hrs hel htk
        go_wp2_with (at_builtin; refine wpList_append_any _ rfl (.tmp 44) (.tmp 46) _ rfl X.heap.size 25 i0 _ 2 16 Try.underlying22 hi hz0 hz1 hz2 rfl (by omega) (.slice A' k c') k (insCells (l.take k)) rfl HOWN2.out (wr.heap.size + 1 + 1) (some ⟨wr.heap.size + 1, 0, none⟩) 1 1 [.int .i64 2, .int .i64 0] rfl HRS.out (by simp [Value.oneCell']) (by unfold maxLen; omega) (by omega) (by simp; omega) ?_; intro v' w5 hown5 hg5 hat5)
        refine ⟨⟨k + 1, by omega, by go_num, ?_, ?_⟩, by simp [intOf]; omega⟩
        · rw [HTK.out, insCells_app]; exact hown5
        · refine Below.grown ((hb.alloc hsz _).alloc (by simp; omega) _) hg5 (by simp; omega) ?_
          intro g hg
          rcases HOWN.out.2 with ⟨h, _⟩ | ⟨g', _, _, h, hle, _⟩
          · rw [h] at hg; simp [Value.ownBlock] at hg
          · rw [h] at hg; simp [Value.ownBlock] at hg; omega
    · obtain rfl : k = N + 1 := by omega
      have htk : l.take (N + 1) = l := List.take_of_length_le (by have := HLEN.out; omega)
      rw [htk] at HRD
      have HCODE := Lib.hid (code_any A' none (N + 1) c' 0 0 wr.heap.size l [] wr HRD.out Reads.none_ (Nat.le_refl _) HLEN.out.symm rfl (by omega) (by omega))
      clear htk
      obtain ⟨M, hM, hM20, hM1⟩ : ∃ M : Nat, 1 + w1' % 65536 % 20 = M ∧ M ≤ 20 ∧ 1 ≤ M := ⟨(1 + w1' % 65536 % 20).toNat, by omega, by omega, by omega⟩
      obtain ⟨Y, hY, hYM⟩ : ∃ Y : Nat, w0 / 16 % 65536 % (M : Int) = Y ∧ Y < M := by
        have h1 := Int.emod_nonneg (w0 / 16 % 65536) (show (M : Int) ≠ 0 by omega)
        have h2 := Int.emod_lt_of_pos (w0 / 16 % 65536) (show (0 : Int) < (M : Int) by omega)
        exact ⟨(w0 / 16 % 65536 % (M : Int)).toNat, by omega, by omega⟩
      have HM := Lib.hid hM
      have HY := Lib.hid hY
      clear hM hY HOWN HRD
      rw [show ((N + 1 : Nat) : Int) = (N : Int) + 1 by omega]
      go_wp2_with fail
      refine HCODE.out.mono ?_
      rintro e w4 ⟨rfl, hb4⟩
      have hb5 : Below X.heap.size X w4 := hb.trans (hb4.mono hsz)
      have hz5 := hb5.size
      have hk5 := HXK.out.below hb5 hlX
      have c0 := hk5.cell 0
      have c1 := hk5.cell 1
      simp only [List.getElem?_toArray, List.getElem?_cons_zero, List.getElem?_cons_succ] at c0 c1
      have hlt5 : w.heap.size < w4.heap.size := by omega
      clear hk5 hb4 HCODE
      have hbig : ∃ C i e, Bd.code l [] = (C, i, e) ∧ ((0 ≤ far ∧ far ≤ (N : Int) - P ∧ C = ⟨N - far, far - N, 0, N + 1 - far⟩ ∧ i = 0 ∧ e = 0) ∨ (far < 0 ∧ C = ⟨0, 0, 0, 0⟩ ∧ i = P ∧ e = 52) ∨ (0 ≤ far ∧ (N : Int) - P < far ∧ C = ⟨0, 0, 0, 0⟩ ∧ i = P ∧ e = 52)) := by
        by_cases hok : 0 ≤ far ∧ far ≤ (N : Int) - P
        · exact ⟨_, _, _, HLAW.out.1 hok, .inl ⟨hok.1, hok.2, rfl, rfl, rfl⟩⟩
        · refine ⟨_, _, _, HLAW.out.2 hok, .inr ?_⟩
          by_cases h0 : far < 0
          · exact .inl ⟨h0, rfl, rfl, rfl⟩
          · exact .inr ⟨by omega, by omega, rfl, rfl, rfl⟩
      obtain ⟨C, ci, ce, hcode, hcs⟩ := hbig
      rw [hcode]
      clear hcode HLAW HAT HLEN
      rcases hcs with ⟨f1, f2, rfl, rfl, rfl⟩ | ⟨f1, rfl, rfl, rfl⟩ | ⟨f1, f2, rfl, rfl, rfl⟩
      all_goals
        simp only [costV]
        go_wp2_with fail
        rw [HM.out]
        generalize hw6 : w4.alloc _ = w6
        have hz6 : w4.heap.size + 1 = w6.heap.size := by rw [← hw6]; simp
        have hb6 : Below X.heap.size X w6 := by rw [← hw6]; exact hb5.alloc hz5 _
        rw [hz6]
        have hk6 := HXK.out.below hb6 hlX
        have hX6 := hb6.size
        clear hw6 c0 c1 hz6
        go_loopw [16, 17] (fun v i wr => InvC X M v i wr) (fun _ i _ => M - (intOf i).toNat)
        case atStart => exact ⟨0, by omega, rfl, own_empty w6 _ 1 _ hX6, hb6.alloc hX6 _⟩
        case round =>
          obtain ⟨k, hk7, rfl, hown, hb7⟩ := hrel
          obtain ⟨A7, c7, rfl, hrd7⟩ := own_form hown
          have HOWN := Lib.hid hown
          have hsz7 := hb7.size
          clear hown hrd7
          by_cases hlt7 : k < M
          · have hown2 : (wr.alloc (.cells #[.slice none 0 0] 22)).ownsRow X.heap.size 22 1 (.slice A7 k c7) k (List.replicate k (.slice none 0 0)) := ownsRow_below HOWN.out ((Below.refl _ _).alloc (Nat.le_refl _) _) (Nat.le_refl _)
            have HOWN2 := Lib.hid hown2
            have hrs := Reads.one_new wr 22 [.slice none 0 0]
            have HRS := Lib.hid hrs
            clear hown2 hrs
            go_wp2_with (at_builtin; refine wpList_append_any _ rfl (.tmp 108) (.tmp 109) _ rfl X.heap.size 22 i1 _ 1 24 Try.underlying34 ji jz0 jz1 jz2 rfl (by omega) (.slice A7 k c7) k (List.replicate k (.slice none 0 0)) rfl HOWN2.out (wr.heap.size + 1) (some ⟨wr.heap.size, 0, none⟩) 1 1 [.slice none 0 0] rfl HRS.out (by simp [Value.oneCell']) (by unfold maxLen; omega) (by omega) (by simp; omega) ?_; intro v' w5 hown5 hg5 hat5)
            refine ⟨⟨k + 1, by omega, by go_num, ?_, ?_⟩, by simp [intOf]; omega⟩
            · rw [List.replicate_succ']; exact hown5
            · refine Below.grown (hb7.alloc hsz7 _) hg5 (by simp; omega) ?_
              intro g hg
              rcases HOWN.out.2 with ⟨h, _⟩ | ⟨g', _, _, h, hle, _⟩
              · rw [h] at hg; simp [Value.ownBlock] at hg
              · rw [h] at hg; simp [Value.ownBlock] at hg; omega
          · obtain rfl : k = M := by omega
            have hk7' := HXK.out.below hb7 hlX
            have c0 := hk7'.cell 0
            have c1 := hk7'.cell 1
            simp only [List.getElem?_toArray, List.getElem?_cons_zero, List.getElem?_cons_succ] at c0 c1
            have hw7 : w.heap.size < wr.heap.size := by omega
            clear hk7'
            obtain ⟨g, cap, hv, hgX, hgs, hgc, hgf, hset⟩ := own_set (j := Y) HOWN.out (by omega)
            injection hv with hv1 hv2 hv3
            subst hv1 hv3
            rw [List.getElem?_replicate, if_pos hYM] at hgc
            have HSET := Lib.hid hset
            clear hset hv2 HOWN
            go_upto_region 25 with (fail)
            rw [HY.out]
            go_wp2_with fail
            obtain ⟨a, ha, ha0, ha1⟩ : ∃ a : Int, w1' / 256 % 32 = a ∧ 0 ≤ a ∧ a < 32 := ⟨_, rfl, by omega, by omega⟩
            rw [ha]
            obtain ⟨W, hW⟩ : ∃ W, W = (wr.setCell ⟨g, Y, none⟩ (.slice (some ⟨wr.heap.size, 0, none⟩) 1 1)).alloc (.cells #[.int .i64 37, .int .i64 a] 25) := ⟨_, rfl⟩
            rw [← hW]
            have hWz : W.heap.size = wr.heap.size + 1 := by rw [hW]; simp [World.setCell]
            have hWb : Below X.heap.size X W := by rw [hW]; exact (hb7.setCell (by exact hgX) _).alloc (by simpa [World.setCell] using hsz7) _
            have hWo : W.ownsRow X.heap.size 22 1 (.slice (some ⟨g, 0, none⟩) k c7) k ((List.replicate k (.slice none 0 0)).set Y (.slice (some ⟨wr.heap.size, 0, none⟩) 1 1)) := by
              rw [hW]; exact ownsRow_below (HSET.out _) ((Below.refl _ _).alloc (Nat.le_refl _) _) (Nat.le_refl _)
            have hWi : Reads W W.heap.size 2 (some ⟨wr.heap.size, 0, none⟩) 1 (insCells [(37, a)]) := by
              rw [hW]; exact Reads.row_at _ 2 #[_, _] (by simp [World.setCell]) (by simp [World.setCell]) rfl
            have hWR : RowsAt W W.heap.size (some ⟨g, 0, none⟩) ((List.replicate k []).set Y [(37, a)]) := by
              refine ⟨_, by simpa using Reads.of_own hWo, fun i l' hl' => ?_⟩
              rw [List.getElem?_set] at hl' ⊢
              by_cases hiY : Y = i
              · subst hiY
                simp only [List.length_replicate, hYM, if_true] at hl' ⊢
                injection hl' with hl'
                subst hl'
                exact ⟨_, rfl, _, _, rfl, hWi⟩
              · rw [if_neg hiY] at hl' ⊢
                rw [List.getElem?_replicate] at hl' ⊢
                split at hl'
                · rename_i hik
                  injection hl' with hl'
                  subst hl'
                  rw [if_pos hik]
                  exact ⟨_, rfl, none, 0, rfl, Reads.none_⟩
                · cases hl'
            have hfn := funcs_any (some ⟨g, 0, none⟩) c7 W.heap.size _ W hWR (Nat.le_refl _) (by
              intro l' hl'
              rcases List.mem_or_eq_of_mem_set hl' with h | rfl
              · obtain ⟨_, rfl⟩ := List.mem_replicate.1 h; simp
              · simp)
            rw [List.length_set, List.length_replicate] at hfn
            have hlw := Bd.funcs_back k Y a hM20 hYM ha0
            generalize Bd.funcs ((List.replicate k []).set Y [(37, a)]) = r at hfn hlw
            obtain ⟨rl, ri, re⟩ := r
            have HFN := Lib.hid hfn
            have HLW := Lib.hid hlw
            clear hfn hlw hWR hWi hWo HSET
            refine HFN.out.mono ?_
            rintro e w8 ⟨A8, c8, rfl, _, hb8⟩
            have hb9 : Below X.heap.size X w8 := hWb.trans (hb8.mono hWb.size)
            have hk9 := HXK.out.below hb9 hlX
            have d0 := hk9.cell 0
            have d1 := hk9.cell 1
            simp only [List.getElem?_toArray, List.getElem?_cons_zero, List.getElem?_cons_succ] at d0 d1
            have hw9 : w.heap.size < w8.heap.size := by have := hb9.size; omega
            have hend : Below w.heap.size w w8 := hXb.trans (hb9.mono (by omega))
            clear hk9 HFN hb8 hgc hgf c0 c1 hW
            have HA := Lib.hid ha
            by_cases hay : a < Y
            · have h1 := HLW.out.1 hay
              simp only at h1
              subst h1
              clear HLW
              have hay2 : ¬ ((Y : Int) ≤ w1' / 256 % 32) := by omega
              clear ha
              go_wp2
              go_ret
              exact ⟨rfl, hend⟩
            · have h1 := HLW.out.2 hay
              simp only [Prod.mk.injEq] at h1
              obtain ⟨rfl, rfl, rfl⟩ := h1
              clear HLW
              have hay2 : (Y : Int) ≤ w1' / 256 % 32 := by omega
              clear ha
              go_wp2
              go_ret
              exact ⟨rfl, hend⟩
end Go.Proofs.Ytgklchhgpnoliaa

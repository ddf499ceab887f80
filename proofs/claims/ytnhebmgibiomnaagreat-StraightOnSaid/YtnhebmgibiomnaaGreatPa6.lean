/- Parts of the proof, joined: SrC SrD SrE McC. -/
import Derived.Test.YtnhebmgibiomnaaGreatPa2
import Derived.Test.YtnhebmgibiomnaaGreatPa5
set_option linter.unusedVariables false
set_option linter.unusedSimpArgs false
namespace Go.Proofs.YtnhebmgibiomnaaGreat
open Go.RowKit Mc
theorem Sr.fitsAll_of : ∀ {code : List Sr.Reg}, (∀ (i : Nat) r, code[i]? = some r → Sr.fits r ((code.length : Int) - 1 - i) = true) → Sr.fitsAll code = true
  | [], _ => rfl
  | x :: l, h => by
    have h0 := h 0 x rfl
    rw [show (((x :: l).length : Nat) : Int) - 1 - (0 : Nat) = l.length by rw [List.length_cons]; omega] at h0
    simp only [Sr.fitsAll, h0, Bool.true_and]
    refine Sr.fitsAll_of fun i r hr => ?_
    have := h (i + 1) r (by simpa using hr)
    rw [show (((x :: l).length : Nat) : Int) - 1 - ((i + 1 : Nat) : Int) = (l.length : Int) - 1 - i by rw [List.length_cons]; omega] at this
    exact this
theorem Sr.right_no {code : List Sr.Reg} {i : Nat} {r : Sr.Reg} (h : code[i]? = some r) (hf : Sr.fits r ((code.length : Int) - 1 - i) = false) : Sr.right code = false := by
  have : Sr.fitsAll code = false := by
    cases hx : Sr.fitsAll code with
    | false => rfl
    | true => rw [Sr.fitsAll_at hx h] at hf; cases hf
  unfold Sr.right
  rw [this]
  simp
theorem Sr.uses_in (op : Int) : 0 ≤ (Sr.uses op).1 ∧ (Sr.uses op).1 ≤ 7 := by
  unfold Sr.uses
  repeat' split
  all_goals exact ⟨by decide, by decide⟩
set_option maxRecDepth 50000 in
set_option maxHeartbeats 4000000 in
theorem right_any (A : Option Addr) (c B : Nat) (code : List Sr.Reg) (w : World) (hR : Reads w B 5 A code.length (regCells code)) (hB : B ≤ w.heap.size) (hn : code.length ≤ 1000000000000) :
    Calls Tryz.prog 21 #[.slice A code.length c] w fun e w' => e = .returned (.bool (Sr.right code)) ∧ Below w.heap.size w w' := by
  have HR := Lib.hid hR
  clear hR
  by_cases h0 : code.length < 1
  · have hr : Sr.right code = false := by unfold Sr.right; rw [decide_eq_false (by omega)]; rfl
    rw [hr]
    clear hr
    generalize code.length = n at *
    go_enter Tryz.func21, Tryz.ntmps21
    go_wp2
    go_ret
    exact ⟨rfl, Below.refl _ _⟩
  by_cases h1 : 80000 < code.length
  · have hr : Sr.right code = false := by unfold Sr.right; rw [decide_eq_false (by omega)]; rfl
    rw [hr]
    clear hr
    generalize code.length = n at *
    go_enter Tryz.func21, Tryz.ntmps21
    go_wp2
    go_ret
    exact ⟨rfl, Below.refl _ _⟩
  go_enter Tryz.func21, Tryz.ntmps21
  go_wp2_with fail
  go_loopw [19] (fun i wr => ∃ k : Nat, k ≤ code.length ∧ i = .int .i64 k ∧ (∀ (j : Nat) r, j < k → code[j]? = some r → Sr.fits r ((code.length : Int) - 1 - j) = true) ∧ Below w.heap.size w wr) (fun i _ => code.length - (intOf i).toNat)
  case atStart => exact ⟨0, by omega, rfl, fun j r h => absurd h (by omega), Below.refl _ _⟩
  case round =>
    obtain ⟨k, hk, rfl, hall, hb⟩ := hrel
    have HALL := Lib.hid hall
    clear hall
    have hsz := hb.size
    have hFr : Reads wr B 5 A code.length (regCells code) := HR.out.below hb hB
    by_cases hlt : k < code.length
    · obtain ⟨r, hr⟩ : ∃ r, code[k]? = some r := ⟨_, List.getElem?_eq_getElem hlt⟩
      obtain ⟨b, off, rfl, hbB, hcells⟩ := hFr.2 (by omega)
      obtain ⟨g0, g1, g2, g3, g4⟩ := regCells_at code k r hr
      have d0 := hcells _ _ g0
      have d1 := hcells _ _ g1
      have d2 := hcells _ _ g2
      have d3 := hcells _ _ g3
      have d4 := hcells _ _ g4
      rw [← Nat.add_assoc] at d1 d2 d3 d4
      have HRK := Lib.hid hr
      have HFR := Lib.hid hFr
      clear hcells g0 g1 g2 g3 g4 hr hFr
      obtain ⟨op, d, a, b', n⟩ := r
      simp only at d0 d1 d2 d3 d4
      go_wp2_with fail
      refine (uses_any op _).mono ?_
      rintro e w1 ⟨rfl, rfl⟩
      obtain ⟨u, ok, hu⟩ : ∃ u ok, Sr.uses op = (u, ok) := ⟨_, _, rfl⟩
      have hu07 := Sr.uses_in op
      rw [hu] at hu07 ⊢
      dsimp only at hu07
      obtain ⟨hu0, hu7⟩ := hu07
      have HU := Lib.hid hu
      clear hu
      have HN : Hid (∀ w2, Below w.heap.size w w2 → Sr.fits ⟨op, d, a, b', n⟩ ((code.length : Int) - 1 - k) = false → Ending.returned (Value.bool false) = .returned (.bool (Sr.right code)) ∧ Below w.heap.size w w2) := Lib.hid fun w2 h2 hf => ⟨ret_bool (Sr.right_no HRK.out hf).symm, h2⟩
      have hba : Below w.heap.size w (wr.alloc (.cells #[.int .i64 op, .int .i64 d, .int .i64 a, .int .i64 b', .int .i64 n] 50)) := hb.alloc hsz _
      cases ok with
      | false =>
        go_wp2
        go_ret
        exact HN.out _ hba (by unfold Sr.fits; rw [HU.out]; rfl)
      | true =>
        by_cases hm : (op = 42 ∧ k + 1 = code.length) ∨ (op ≠ 42 ∧ k + 1 < code.length)
        · have hfit : Sr.fits ⟨op, d, a, b', n⟩ ((code.length : Int) - 1 - k) = (Sr.there ⟨op, d, a, b', n⟩ u && (!Sr.leaps op || decide (0 ≤ n ∧ n < (code.length : Int) - 1 - k))) := by
            unfold Sr.fits
            rw [HU.out]
            rcases hm with ⟨h, h'⟩ | ⟨h, h'⟩
            · subst h
              rw [decide_eq_true (show (42 : Int) = 42 from rfl), decide_eq_true (show (code.length : Int) - 1 - k = 0 by omega)]
              simp
            · rw [decide_eq_false h, decide_eq_false (show ¬ (code.length : Int) - 1 - k = 0 by omega)]
              simp
          have HFIT := Lib.hid hfit
          clear hfit
          have hgo : (op == 42) = ((code.length : Int) - 1 - k == 0) := by
            rcases hm with ⟨h, h'⟩ | ⟨h, h'⟩
            · subst h
              rw [show ((code.length : Int) - 1 - k == 0) = true from beq_iff_eq.2 (by omega)]
              rfl
            · rw [show (op == 42) = false from beq_eq_false_iff_ne.2 h, show ((code.length : Int) - 1 - k == 0) = false from beq_eq_false_iff_ne.2 (by omega)]
          clear hm
          go_wp2_with fail
          refine (there_any ⟨op, d, a, b', n⟩ u _ hu0 hu7).mono ?_
          rintro e w2 ⟨rfl, hb2⟩
          have hb3 : Below w.heap.size w w2 := hba.trans (hb2.mono (by simp; omega))
          have c0 : w2.cell? ⟨wr.heap.size, 0, none⟩ = some (.int .i64 op) := by rw [hb2.cell (by simp)]; simp [go_sem]
          have c4 : w2.cell? ⟨wr.heap.size, 4, none⟩ = some (.int .i64 n) := by rw [hb2.cell (by simp)]; simp [go_sem]
          cases ht : Sr.there ⟨op, d, a, b', n⟩ u with
          | false =>
            have HT := Lib.hid ht
            clear ht
            go_wp2
            go_ret
            exact HN.out _ hb3 (by rw [HFIT.out, HT.out]; rfl)
          | true =>
            have HT := Lib.hid ht
            clear ht hb2 d0 d1 d2 d3 d4
            go_wp2_with fail
            refine (leaps_any op _).mono ?_
            rintro e w3 ⟨rfl, rfl⟩
            cases hlp : Sr.leaps op with
            | false =>
              have HF := Lib.hid (show Sr.fits ⟨op, d, a, b', n⟩ ((code.length : Int) - 1 - k) = true by rw [HFIT.out, HT.out, hlp]; rfl)
              clear hlp c0 c4
              go_wp2
              exact ⟨⟨k + 1, by omega, by go_num, fun j r hj hr => by
                rcases Nat.lt_or_ge j k with h | h
                · exact HALL.out j r h hr
                · obtain rfl : j = k := by omega
                  rw [HRK.out] at hr
                  injection hr with hr
                  subst hr
                  exact HF.out, hb3⟩, by simp [intOf]; omega⟩
            | true =>
              by_cases hN : 0 ≤ n ∧ n < (code.length : Int) - 1 - k
              · have HF := Lib.hid (show Sr.fits ⟨op, d, a, b', n⟩ ((code.length : Int) - 1 - k) = true by rw [HFIT.out, HT.out, hlp, decide_eq_true hN]; rfl)
                clear hlp
                obtain ⟨hN0, hN1⟩ := hN
                go_wp2
                exact ⟨⟨k + 1, by omega, by go_num, fun j r hj hr => by
                  rcases Nat.lt_or_ge j k with h | h
                  · exact HALL.out j r h hr
                  · obtain rfl : j = k := by omega
                    rw [HRK.out] at hr
                    injection hr with hr
                    subst hr
                    exact HF.out, hb3⟩, by simp [intOf]; omega⟩
              · have HF := Lib.hid (show Sr.fits ⟨op, d, a, b', n⟩ ((code.length : Int) - 1 - k) = false by rw [HFIT.out, HT.out, hlp, decide_eq_false hN]; rfl)
                clear hlp
                by_cases hN0 : 0 ≤ n
                · have hN1 : (code.length : Int) - 1 - k ≤ n := by omega
                  clear hN
                  go_wp2
                  go_ret
                  exact HN.out _ hb3 HF.out
                · clear hN
                  go_wp2
                  go_ret
                  exact HN.out _ hb3 HF.out
        · have hgo : ¬ (op == 42) = ((code.length : Int) - 1 - k == 0) := by
            intro h
            by_cases ho : op = 42
            · rw [ho] at h
              have := beq_iff_eq.1 h.symm
              exact hm (.inl ⟨ho, by omega⟩)
            · rw [beq_eq_false_iff_ne.2 ho] at h
              have := beq_eq_false_iff_ne.1 h.symm
              exact hm (.inr ⟨ho, by omega⟩)
          have hfit : Sr.fits ⟨op, d, a, b', n⟩ ((code.length : Int) - 1 - k) = false := by
            unfold Sr.fits
            rw [HU.out]
            have : (decide (op = 42) == decide ((code.length : Int) - 1 - k = 0)) = false := by
              refine beq_eq_false_iff_ne.2 fun h => hgo ?_
              have h' : (op = 42) ↔ ((code.length : Int) - 1 - k = 0) := by simpa using h
              rw [Bool.eq_iff_iff, beq_iff_eq, beq_iff_eq]
              exact h'
            simp only [this, Bool.and_false, Bool.false_and]
          have HF := Lib.hid hfit
          clear hm hfit
          go_wp2
          go_ret
          exact HN.out _ hba HF.out
    · obtain rfl : k = code.length := by omega
      obtain ⟨r, hr⟩ : ∃ r, code[code.length - 1]? = some r := ⟨_, List.getElem?_eq_getElem (by omega)⟩
      have hfit : Sr.fitsAll code = true := Sr.fitsAll_of fun i r hr => HALL.out i r (List.getElem?_eq_some_iff.1 hr).1 hr
      have hright : Sr.right code = decide (0 ≤ r.n ∧ r.n ≤ 64) := by
        unfold Sr.right
        rw [hfit, List.getLast?_eq_getElem?, hr, decide_eq_true (show 1 ≤ code.length ∧ code.length ≤ 80000 by omega)]
        simp
      have HRT := Lib.hid hright
      clear hright hfit
      obtain ⟨b, off, rfl, hbB, hcells⟩ := hFr.2 (by omega)
      obtain ⟨_, _, _, _, g4⟩ := regCells_at code _ r hr
      have d4 := hcells _ _ g4
      rw [← Nat.add_assoc] at d4
      have HFR := Lib.hid hFr
      clear hcells g4 hr hFr
      obtain ⟨op, d, a, b', n⟩ := r
      simp only at d4
      have hm : (code.length : Int) - 1 = ((code.length - 1 : Nat) : Int) := by omega
      have hml : code.length - 1 < code.length := by omega
      generalize code.length - 1 = m at *
      go_wp2
      all_goals
        go_ret
        exact ⟨ret_bool (by rw [HRT.out]; simp; omega), hb⟩
end Go.Proofs.YtnhebmgibiomnaaGreat
namespace Go.Proofs.YtnhebmgibiomnaaGreat
open Go.RowKit Mc
section
variable {w w' : World} {sb : Nat} {L : SLay} {s : Sr.St}
theorem SrL.drew (h : SrL w sb L s) : SrL w.drew sb L s := h.keep fun _ _ => rfl
theorem SrL.alloc (h : SrL w sb L s) (o : Obj) : SrL (w.alloc o) sb L s := h.keep fun k hk => Below.heap_alloc _ _ _ (h.lt hk)
theorem SrL.fr (_h : SrL w sb L s) (i : Nat) (u : Value) : Fr (SrS L sb) w (w.setCell ⟨sb, i, none⟩ u) := (Fr.refl _ w).setCell (.inl (.inl rfl)) _
theorem SrL.rk (h : SrL w sb L s) {i : Nat} (hi : i < 64) : K32 (s.regs.getD i 0) := by
  rw [List.getD_eq_getElem?_getD, List.getElem?_eq_getElem (by rw [h.ok.rl]; exact hi)]
  exact h.ok.rk _ (List.getElem_mem _)
theorem SPost.from_ {e : Ending} {w1 w2 : World} (h : Fr (SrS L sb) w w1) (k : SPost w1 sb L s e w2) : SPost w sb L s e w2 := ⟨k.1, k.2.1, h.trans k.2.2⟩
end
set_option maxRecDepth 100000 in
set_option maxHeartbeats 1000000 in
theorem sone_any (w : World) (sb : Nat) (L : SLay) (s : Sr.St) (h : SrL w sb L s) (op n : Int) (d a : Nat) (b : Int) (hd : d < 64) (ha : a < 64) (fb f : Nat) (hfb : Blk w fb 117 #[.func (.func f) #[] #[]]) (v : Int) (hin : ∀ args w, Sem.run Tryz.prog (callFunc f args) w = .ok (.enter f args) w)
    (hf : ∀ w, Calls Tryz.prog f #[.int .i64 (s.regs.getD a 0)] w fun e w' => e = .returned (.int .i64 v) ∧ w = w') :
    Calls Tryz.prog 224 #[.pointer (some ⟨sb, 0, none⟩), regV ⟨op, d, a, b, n⟩, .pointer (some ⟨fb, 0, none⟩)] w (SPost w sb L { s with regs := s.regs.set d (k32 v) }) := by
  unfold regV
  have H := Lib.hid h
  have HF := Lib.hid hf
  have HB := Lib.hid hfb
  have hs1 := h.blk.lt
  have ha64 : (a : Int) < 64 := by omega
  have hd64 : (d : Int) < 64 := by omega
  have hs2 := hfb.lt
  have c1 := (h.alloc (.cells #[.int .i64 op, .int .i64 (d : Int), .int .i64 (a : Int), .int .i64 (b : Int), .int .i64 n] 50)).reg ha
  have c0 := (h.alloc (.cells #[.int .i64 op, .int .i64 (d : Int), .int .i64 (a : Int), .int .i64 (b : Int), .int .i64 n] 50)).reg hd
  have c2 := (hfb.alloc (.cells #[.int .i64 op, .int .i64 (d : Int), .int .i64 (a : Int), .int .i64 (b : Int), .int .i64 n] 50)).cell 0
  simp only [List.getElem?_toArray, List.getElem?_cons_zero] at c2
  clear h hf hfb
  go_enter Tryz.func224, Tryz.ntmps224
  go_wp2_with fail
  have r1 : (w.alloc (.cells #[.int .i64 op, .int .i64 (d : Int), .int .i64 (a : Int), .int .i64 (b : Int), .int .i64 n] 50)).cell? ⟨w.heap.size, 1, none⟩ = some (.int .i64 (d : Int)) := (Blk.new w _ _).cell 1
  have r2 : (w.alloc (.cells #[.int .i64 op, .int .i64 (d : Int), .int .i64 (a : Int), .int .i64 (b : Int), .int .i64 n] 50)).cell? ⟨w.heap.size, 2, none⟩ = some (.int .i64 (a : Int)) := (Blk.new w _ _).cell 2
  have HP : Hid (SPost w sb L { s with regs := s.regs.set d (k32 v) } (.returned (.tuple #[])) ((w.alloc (.cells #[.int .i64 op, .int .i64 (d : Int), .int .i64 (a : Int), .int .i64 (b : Int), .int .i64 n] 50)).drew.setCell ⟨sb, d, none⟩ (.int .i64 (k32 v)))) := Lib.hid ⟨rfl, (H.out.alloc _).drew.setReg hd (k32_in v), ((Fr.refl _ w).alloc _).drew.setCell (.inl (.inl rfl)) _⟩
  have fz : (w.alloc (.cells #[.int .i64 op, .int .i64 (d : Int), .int .i64 (a : Int), .int .i64 (b : Int), .int .i64 n] 50)).drew.frozen? ⟨sb, d, none⟩ = false := (H.out.alloc _).drew.blk.frozen d
  generalize (w.alloc (.cells #[.int .i64 op, .int .i64 (d : Int), .int .i64 (a : Int), .int .i64 (b : Int), .int .i64 n] 50)) = W at *
  have hS : W.drew.cell? ⟨w.heap.size, 1, none⟩ = some (.int .i64 (d : Int)) ∧ W.drew.cell? ⟨fb, 0, none⟩ = some (.func (.func f) #[] #[]) ∧ W.drew.cell? ⟨w.heap.size, 2, none⟩ = some (.int .i64 (a : Int)) ∧ W.drew.cell? ⟨sb, a, none⟩ = some (.int .i64 (s.regs.getD a 0)) := ⟨r1, c2, r2, c1⟩
  refine wp_region_seqT (fun i => !([11, 12, 16] : List Nat).contains i) (fun i => ([2, 3, 6, 10] : List Nat).contains i) (fun i => ([11, 12] : List Nat).contains i) [0, 1, 2, 3, 4, 5, 6, 7, 8, 9, 10, 13, 14, 11, 12, 15, 16] (fun wq : World => wq.cell? ⟨w.heap.size, 1, none⟩ = some (.int .i64 (d : Int)) ∧ wq.cell? ⟨fb, 0, none⟩ = some (.func (.func f) #[] #[]) ∧ wq.cell? ⟨w.heap.size, 2, none⟩ = some (.int .i64 (a : Int)) ∧ wq.cell? ⟨sb, a, none⟩ = some (.int .i64 (s.regs.getD a 0))) (by kernel_rfl) (by kernel_rfl) (by kernel_rfl) (by kernel_rfl) ?_
  repeat (first | refine wpSeq_pureA (v := _) rfl rfl rfl ?_ | refine wpSeq_loadA (v := _) rfl rfl hS rfl ?_)
  refine wpSeq_heavy rfl rfl (fun K hK => ?_); go_simp
  refine (HF.out _).mono ?_
  rintro e w5 ⟨rfl, rfl⟩
  dsimp only
  refine hK _ _ (fun _ => hS) ?_; clear hK K
  refine wpSeq_heavy rfl rfl (fun K hK => ?_); go_simp
  refine (skept_any _ _).mono ?_
  rintro e w5 ⟨rfl, rfl⟩
  dsimp only
  refine hK _ _ (fun _ => hS) ?_; clear hK K
  repeat (first | refine wpSeq_pureA (v := _) rfl rfl rfl ?_ | refine wpSeq_loadA (v := _) rfl rfl hS rfl ?_)
  refine wpSeq_heavy rfl rfl (fun K hK => ?_); go_simp
  refine hK _ _ (fun h => by cases h) ?_; clear hK K
  refine wpSeq_end ?_
  go_wp2
  go_end0
  exact HP.out
set_option maxRecDepth 100000 in
set_option maxHeartbeats 1000000 in
theorem stwo_any (w : World) (sb : Nat) (L : SLay) (s : Sr.St) (h : SrL w sb L s) (op n : Int) (d a b : Nat) (hd : d < 64) (ha : a < 64) (hb : b < 64) (fb f : Nat) (hfb : Blk w fb 74 #[.func (.func f) #[] #[]]) (v : Int) (hin : ∀ args w, Sem.run Tryz.prog (callFunc f args) w = .ok (.enter f args) w)
    (hf : ∀ w, Calls Tryz.prog f #[.int .i64 (s.regs.getD a 0), .int .i64 (s.regs.getD b 0)] w fun e w' => e = .returned (.int .i64 v) ∧ w = w') :
    Calls Tryz.prog 225 #[.pointer (some ⟨sb, 0, none⟩), regV ⟨op, d, a, b, n⟩, .pointer (some ⟨fb, 0, none⟩)] w (SPost w sb L { s with regs := s.regs.set d (k32 v) }) := by
  unfold regV
  have H := Lib.hid h
  have HF := Lib.hid hf
  have HB := Lib.hid hfb
  have hs1 := h.blk.lt
  have ha64 : (a : Int) < 64 := by omega
  have hb64 : (b : Int) < 64 := by omega
  have hd64 : (d : Int) < 64 := by omega
  have hs2 := hfb.lt
  have c1 := (h.alloc (.cells #[.int .i64 op, .int .i64 (d : Int), .int .i64 (a : Int), .int .i64 ((b : Nat) : Int), .int .i64 n] 50)).reg ha
  have c3 := (h.alloc (.cells #[.int .i64 op, .int .i64 (d : Int), .int .i64 (a : Int), .int .i64 ((b : Nat) : Int), .int .i64 n] 50)).reg hb
  have c0 := (h.alloc (.cells #[.int .i64 op, .int .i64 (d : Int), .int .i64 (a : Int), .int .i64 ((b : Nat) : Int), .int .i64 n] 50)).reg hd
  have c2 := (hfb.alloc (.cells #[.int .i64 op, .int .i64 (d : Int), .int .i64 (a : Int), .int .i64 ((b : Nat) : Int), .int .i64 n] 50)).cell 0
  simp only [List.getElem?_toArray, List.getElem?_cons_zero] at c2
  clear h hf hfb
  go_enter Tryz.func225, Tryz.ntmps225
  go_wp2_with fail
  have r1 : (w.alloc (.cells #[.int .i64 op, .int .i64 (d : Int), .int .i64 (a : Int), .int .i64 ((b : Nat) : Int), .int .i64 n] 50)).cell? ⟨w.heap.size, 1, none⟩ = some (.int .i64 (d : Int)) := (Blk.new w _ _).cell 1
  have r2 : (w.alloc (.cells #[.int .i64 op, .int .i64 (d : Int), .int .i64 (a : Int), .int .i64 ((b : Nat) : Int), .int .i64 n] 50)).cell? ⟨w.heap.size, 2, none⟩ = some (.int .i64 (a : Int)) := (Blk.new w _ _).cell 2
  have r3 : (w.alloc (.cells #[.int .i64 op, .int .i64 (d : Int), .int .i64 (a : Int), .int .i64 ((b : Nat) : Int), .int .i64 n] 50)).cell? ⟨w.heap.size, 3, none⟩ = some (.int .i64 (b : Int)) := (Blk.new w _ _).cell 3
  have HP : Hid (SPost w sb L { s with regs := s.regs.set d (k32 v) } (.returned (.tuple #[])) ((w.alloc (.cells #[.int .i64 op, .int .i64 (d : Int), .int .i64 (a : Int), .int .i64 ((b : Nat) : Int), .int .i64 n] 50)).drew.setCell ⟨sb, d, none⟩ (.int .i64 (k32 v)))) := Lib.hid ⟨rfl, (H.out.alloc _).drew.setReg hd (k32_in v), ((Fr.refl _ w).alloc _).drew.setCell (.inl (.inl rfl)) _⟩
  have fz : (w.alloc (.cells #[.int .i64 op, .int .i64 (d : Int), .int .i64 (a : Int), .int .i64 ((b : Nat) : Int), .int .i64 n] 50)).drew.frozen? ⟨sb, d, none⟩ = false := (H.out.alloc _).drew.blk.frozen d
  generalize (w.alloc (.cells #[.int .i64 op, .int .i64 (d : Int), .int .i64 (a : Int), .int .i64 ((b : Nat) : Int), .int .i64 n] 50)) = W at *
  have hS : W.drew.cell? ⟨w.heap.size, 1, none⟩ = some (.int .i64 (d : Int)) ∧ W.drew.cell? ⟨fb, 0, none⟩ = some (.func (.func f) #[] #[]) ∧ W.drew.cell? ⟨w.heap.size, 2, none⟩ = some (.int .i64 (a : Int)) ∧ W.drew.cell? ⟨sb, a, none⟩ = some (.int .i64 (s.regs.getD a 0)) ∧ W.drew.cell? ⟨w.heap.size, 3, none⟩ = some (.int .i64 (b : Int)) ∧ W.drew.cell? ⟨sb, b, none⟩ = some (.int .i64 (s.regs.getD b 0)) := ⟨r1, c2, r2, c1, r3, c3⟩
  refine wp_region_seqT (fun i => !([18, 19, 23] : List Nat).contains i) (fun i => ([2, 3, 6, 10, 13, 17] : List Nat).contains i) (fun i => ([18, 19] : List Nat).contains i) [0, 1, 2, 3, 4, 5, 6, 7, 8, 9, 10, 11, 12, 13, 14, 15, 16, 17, 20, 21, 18, 19, 22, 23] (fun wq : World => wq.cell? ⟨w.heap.size, 1, none⟩ = some (.int .i64 (d : Int)) ∧ wq.cell? ⟨fb, 0, none⟩ = some (.func (.func f) #[] #[]) ∧ wq.cell? ⟨w.heap.size, 2, none⟩ = some (.int .i64 (a : Int)) ∧ wq.cell? ⟨sb, a, none⟩ = some (.int .i64 (s.regs.getD a 0)) ∧ wq.cell? ⟨w.heap.size, 3, none⟩ = some (.int .i64 (b : Int)) ∧ wq.cell? ⟨sb, b, none⟩ = some (.int .i64 (s.regs.getD b 0))) (by kernel_rfl) (by kernel_rfl) (by kernel_rfl) (by kernel_rfl) ?_
  repeat (first | refine wpSeq_pureA (v := _) rfl rfl rfl ?_ | refine wpSeq_loadA (v := _) rfl rfl hS rfl ?_)
  refine wpSeq_heavy rfl rfl (fun K hK => ?_); go_simp
  refine (HF.out _).mono ?_
  rintro e w5 ⟨rfl, rfl⟩
  dsimp only
  refine hK _ _ (fun _ => hS) ?_; clear hK K
  refine wpSeq_heavy rfl rfl (fun K hK => ?_); go_simp
  refine (skept_any _ _).mono ?_
  rintro e w5 ⟨rfl, rfl⟩
  dsimp only
  refine hK _ _ (fun _ => hS) ?_; clear hK K
  repeat (first | refine wpSeq_pureA (v := _) rfl rfl rfl ?_ | refine wpSeq_loadA (v := _) rfl rfl hS rfl ?_)
  refine wpSeq_heavy rfl rfl (fun K hK => ?_); go_simp
  refine hK _ _ (fun h => by cases h) ?_; clear hK K
  refine wpSeq_end ?_
  go_wp2
  go_end0
  exact HP.out
end Go.Proofs.YtnhebmgibiomnaaGreat
namespace Go.Proofs.YtnhebmgibiomnaaGreat
open Go.RowKit Mc
section
variable {w w' w1 : World} {sb : Nat} {L : SLay} {s : Sr.St}
theorem SrL.getR (h : SrL w sb L s) {i : Nat} (hi : i < 64) : ∃ x, s.regs.getD i 0 = x ∧ w.cell? ⟨sb, i, none⟩ = some (.int .i64 x) ∧ K32 x := ⟨_, rfl, h.reg hi, h.rk hi⟩
theorem SPost.put (h : SrL w1 sb L s) (hf : Fr (SrS L sb) w w1) {d : Nat} (hd : d < 64) {x : Int} (hx : K32 x) : SPost w sb L { s with regs := s.regs.set d x } (.returned (.tuple #[])) (w1.setCell ⟨sb, d, none⟩ (.int .i64 x)) :=
  ⟨rfl, h.setReg hd hx, hf.setCell (.inl (.inl rfl)) _⟩
theorem SPost.here (h : SrL w1 sb L s) (hf : Fr (SrS L sb) w w1) : SPost w sb L s (.returned (.tuple #[])) w1 := ⟨rfl, h, hf⟩
end
theorem at_k {l : List Int} {x : Int} (hk : ∀ x ∈ l, K32 x) : K32 (at_ l x) := by
  unfold at_
  split
  · rw [List.getD_eq_getElem?_getD, List.getElem?_eq_getElem (by omega)]
    exact hk _ (List.getElem_mem _)
  · exact ⟨by decide, by decide⟩
set_option maxRecDepth 100000 in
set_option maxHeartbeats 1000000 in
theorem sread_any (w : World) (sb : Nat) (L : SLay) (s : Sr.St) (h : SrL w sb L s) (op n b : Int) (d a : Nat) (hd : d < 64) (ha : a < 64) (v : Value) (l : List Int) (hl : l.length ≤ 1000000) (hv : w.ownsRow 0 3 1 v l.length (ints l)) (hk : ∀ x ∈ l, K32 x) :
    Calls Tryz.prog 128 #[.pointer (some ⟨sb, 0, none⟩), v, regV ⟨op, d, a, b, n⟩] w (SPost w sb L { s with regs := s.regs.set d (at_ l (s.regs.getD a 0)) }) := by
  unfold regV
  have H := Lib.hid h
  have ha64 : (a : Int) < 64 := by omega
  have hd64 : (d : Int) < 64 := by omega
  have hs1 := h.blk.lt
  obtain ⟨x, hx, c1, hxk⟩ := h.getR ha
  have HX := Lib.hid hx
  rw [hx]
  obtain ⟨A, c, rfl, hc1, hc2⟩ := owns_form hv
  have HK := Lib.hid (at_k (x := x) hk)
  have HV := Lib.hid hv
  have FIN := Lib.hid (show ∀ (y : Int), y = at_ l x → ∀ W, SrL W sb L s → Fr (SrS L sb) w W → SPost w sb L { s with regs := s.regs.set d (at_ l x) } (.returned (.tuple #[])) (W.setCell ⟨sb, d, none⟩ (.int .i64 y)) from fun y hy W h1 h2 => by
    subst hy
    exact .put h1 h2 hd HK.out)
  clear h hx hv hk hc1 hc2 c1
  by_cases hx : 0 ≤ x ∧ x < l.length
  · obtain ⟨i, rfl⟩ : ∃ i : Nat, x = i := ⟨x.toNat, by omega⟩
    have hil : i < l.length := by omega
    obtain ⟨y, hy⟩ : ∃ y, l[i]? = some y := ⟨_, List.getElem?_eq_getElem hil⟩
    have e := Lib.hid (at_yes hy)
    obtain ⟨g, c', hA, _, _, hg, hcell⟩ := owns_at HV.out (by omega)
    have cy := hcell i _ (ints_get hy)
    injection hA with hA
    subst hA
    clear hcell hx hy
    go_enter Tryz.func128, Tryz.ntmps128
    go_wp2_with fail
    have r1 : (w.alloc (.cells #[.int .i64 op, .int .i64 (d : Int), .int .i64 (a : Int), .int .i64 (b : Int), .int .i64 n] 50)).cell? ⟨w.heap.size, 1, none⟩ = some (.int .i64 (d : Int)) := (Blk.new w _ _).cell 1
    have r2 : (w.alloc (.cells #[.int .i64 op, .int .i64 (d : Int), .int .i64 (a : Int), .int .i64 (b : Int), .int .i64 n] 50)).cell? ⟨w.heap.size, 2, none⟩ = some (.int .i64 (a : Int)) := (Blk.new w _ _).cell 2
    have r3 : (w.alloc (.cells #[.int .i64 op, .int .i64 (d : Int), .int .i64 (a : Int), .int .i64 (b : Int), .int .i64 n] 50)).cell? ⟨w.heap.size, 3, none⟩ = some (.int .i64 (b : Int)) := (Blk.new w _ _).cell 3
    have H1 := Lib.hid (H.out.alloc (.cells #[.int .i64 op, .int .i64 (d : Int), .int .i64 (a : Int), .int .i64 (b : Int), .int .i64 n] 50))
    have F1 := Lib.hid ((Fr.refl (SrS L sb) w).alloc (.cells #[.int .i64 op, .int .i64 (d : Int), .int .i64 (a : Int), .int .i64 (b : Int), .int .i64 n] 50))
    have hz : w.heap.size < (w.alloc (.cells #[.int .i64 op, .int .i64 (d : Int), .int .i64 (a : Int), .int .i64 (b : Int), .int .i64 n] 50)).heap.size := by simp
    have cy : (w.alloc (.cells #[.int .i64 op, .int .i64 (d : Int), .int .i64 (a : Int), .int .i64 (b : Int), .int .i64 n] 50)).cell? ⟨g, i, none⟩ = some (.int .i64 y) := by simpa [go_sem, hg] using cy
    generalize (w.alloc (.cells #[.int .i64 op, .int .i64 (d : Int), .int .i64 (a : Int), .int .i64 (b : Int), .int .i64 n] 50)) = W at *
    have c1 := H1.out.reg ha
    rw [HX.out] at c1
    have hS : W.drew.cell? ⟨w.heap.size, 2, none⟩ = some (.int .i64 (a : Int)) ∧ W.drew.cell? ⟨sb, a, none⟩ = some (.int .i64 (i : Int)) := ⟨r2, c1⟩
    refine wp_region_seqT (fun i => !([] : List Nat).contains i) (fun i => ([2, 6] : List Nat).contains i) (fun i => ([] : List Nat).contains i) [0, 1, 2, 3, 4, 5, 6, 7, 8] (fun wq : World => wq.cell? ⟨w.heap.size, 2, none⟩ = some (.int .i64 (a : Int)) ∧ wq.cell? ⟨sb, a, none⟩ = some (.int .i64 (i : Int))) (by kernel_rfl) (by kernel_rfl) (by kernel_rfl) (by kernel_rfl) ?_
    repeat (first | refine wpSeq_pureA (v := _) rfl rfl rfl ?_ | refine wpSeq_loadA (v := _) rfl rfl hS rfl ?_)
    refine wpSeq_end ?_
    clear c1
    have H1 := Lib.hid H1.out.drew
    have F1 := Lib.hid F1.out.drew
    replace r1 : W.drew.cell? ⟨w.heap.size, 1, none⟩ = some (.int .i64 (d : Int)) := r1
    replace r2 : W.drew.cell? ⟨w.heap.size, 2, none⟩ = some (.int .i64 (a : Int)) := r2
    replace r3 : W.drew.cell? ⟨w.heap.size, 3, none⟩ = some (.int .i64 (b : Int)) := r3
    replace hz : w.heap.size < W.drew.heap.size := hz
    replace cy : W.drew.cell? ⟨g, i, none⟩ = some (.int .i64 y) := cy
    clear hS
    generalize W.drew = W at *
    go_wp2_with fail
    have fz := H1.out.drew.blk.frozen d
    have c0 := H1.out.drew.reg hd
    have hS : W.drew.cell? ⟨w.heap.size, 1, none⟩ = some (.int .i64 (d : Int)) := r1
    refine wp_region_seqT (fun i => !([7] : List Nat).contains i) (fun i => ([2] : List Nat).contains i) (fun i => ([] : List Nat).contains i) [0, 1, 2, 3, 4, 5, 6, 7] (fun wq : World => wq.cell? ⟨w.heap.size, 1, none⟩ = some (.int .i64 (d : Int))) (by kernel_rfl) (by kernel_rfl) (by kernel_rfl) (by kernel_rfl) ?_
    repeat (first | refine wpSeq_pureA (v := _) rfl rfl rfl ?_ | refine wpSeq_loadA (v := _) rfl rfl hS rfl ?_)
    refine wpSeq_heavy rfl rfl (fun K hK => ?_); go_simp
    refine hK _ _ (fun h => by cases h) ?_; clear hK K
    refine wpSeq_end ?_
    go_wp2
    go_end0
    exact FIN.out _ e.out.symm _ H1.out.drew F1.out.drew
  · have e := Lib.hid (at_no hx)
    by_cases h0 : 0 ≤ x
    · have h1 : ¬ x < l.length := fun e => hx ⟨h0, e⟩
      clear hx
      go_enter Tryz.func128, Tryz.ntmps128
      go_wp2_with fail
      have r1 : (w.alloc (.cells #[.int .i64 op, .int .i64 (d : Int), .int .i64 (a : Int), .int .i64 (b : Int), .int .i64 n] 50)).cell? ⟨w.heap.size, 1, none⟩ = some (.int .i64 (d : Int)) := (Blk.new w _ _).cell 1
      have r2 : (w.alloc (.cells #[.int .i64 op, .int .i64 (d : Int), .int .i64 (a : Int), .int .i64 (b : Int), .int .i64 n] 50)).cell? ⟨w.heap.size, 2, none⟩ = some (.int .i64 (a : Int)) := (Blk.new w _ _).cell 2
      have r3 : (w.alloc (.cells #[.int .i64 op, .int .i64 (d : Int), .int .i64 (a : Int), .int .i64 (b : Int), .int .i64 n] 50)).cell? ⟨w.heap.size, 3, none⟩ = some (.int .i64 (b : Int)) := (Blk.new w _ _).cell 3
      have H1 := Lib.hid (H.out.alloc (.cells #[.int .i64 op, .int .i64 (d : Int), .int .i64 (a : Int), .int .i64 (b : Int), .int .i64 n] 50))
      have F1 := Lib.hid ((Fr.refl (SrS L sb) w).alloc (.cells #[.int .i64 op, .int .i64 (d : Int), .int .i64 (a : Int), .int .i64 (b : Int), .int .i64 n] 50))
      have hz : w.heap.size < (w.alloc (.cells #[.int .i64 op, .int .i64 (d : Int), .int .i64 (a : Int), .int .i64 (b : Int), .int .i64 n] 50)).heap.size := by simp
      skip
      generalize (w.alloc (.cells #[.int .i64 op, .int .i64 (d : Int), .int .i64 (a : Int), .int .i64 (b : Int), .int .i64 n] 50)) = W at *
      have c1 := H1.out.reg ha
      rw [HX.out] at c1
      have hS : W.drew.cell? ⟨w.heap.size, 2, none⟩ = some (.int .i64 (a : Int)) ∧ W.drew.cell? ⟨sb, a, none⟩ = some (.int .i64 x) := ⟨r2, c1⟩
      refine wp_region_seqT (fun i => !([] : List Nat).contains i) (fun i => ([2, 6] : List Nat).contains i) (fun i => ([] : List Nat).contains i) [0, 1, 2, 3, 4, 5, 6, 7, 8] (fun wq : World => wq.cell? ⟨w.heap.size, 2, none⟩ = some (.int .i64 (a : Int)) ∧ wq.cell? ⟨sb, a, none⟩ = some (.int .i64 x)) (by kernel_rfl) (by kernel_rfl) (by kernel_rfl) (by kernel_rfl) ?_
      repeat (first | refine wpSeq_pureA (v := _) rfl rfl rfl ?_ | refine wpSeq_loadA (v := _) rfl rfl hS rfl ?_)
      refine wpSeq_end ?_
      clear c1
      have H1 := Lib.hid H1.out.drew
      have F1 := Lib.hid F1.out.drew
      replace r1 : W.drew.cell? ⟨w.heap.size, 1, none⟩ = some (.int .i64 (d : Int)) := r1
      replace r2 : W.drew.cell? ⟨w.heap.size, 2, none⟩ = some (.int .i64 (a : Int)) := r2
      replace r3 : W.drew.cell? ⟨w.heap.size, 3, none⟩ = some (.int .i64 (b : Int)) := r3
      replace hz : w.heap.size < W.drew.heap.size := hz
      skip
      clear hS
      generalize W.drew = W at *
      go_wp2_with fail
      have fz := H1.out.drew.blk.frozen d
      have c0 := H1.out.drew.reg hd
      have hS : W.drew.cell? ⟨w.heap.size, 1, none⟩ = some (.int .i64 (d : Int)) := r1
      refine wp_region_seqT (fun i => !([7] : List Nat).contains i) (fun i => ([2] : List Nat).contains i) (fun i => ([] : List Nat).contains i) [0, 1, 2, 3, 4, 5, 6, 7] (fun wq : World => wq.cell? ⟨w.heap.size, 1, none⟩ = some (.int .i64 (d : Int))) (by kernel_rfl) (by kernel_rfl) (by kernel_rfl) (by kernel_rfl) ?_
      repeat (first | refine wpSeq_pureA (v := _) rfl rfl rfl ?_ | refine wpSeq_loadA (v := _) rfl rfl hS rfl ?_)
      refine wpSeq_heavy rfl rfl (fun K hK => ?_); go_simp
      refine hK _ _ (fun h => by cases h) ?_; clear hK K
      refine wpSeq_end ?_
      go_wp2
      go_end0
      exact FIN.out _ e.out.symm _ H1.out.drew F1.out.drew
    · clear hx
      go_enter Tryz.func128, Tryz.ntmps128
      go_wp2_with fail
      have r1 : (w.alloc (.cells #[.int .i64 op, .int .i64 (d : Int), .int .i64 (a : Int), .int .i64 (b : Int), .int .i64 n] 50)).cell? ⟨w.heap.size, 1, none⟩ = some (.int .i64 (d : Int)) := (Blk.new w _ _).cell 1
      have r2 : (w.alloc (.cells #[.int .i64 op, .int .i64 (d : Int), .int .i64 (a : Int), .int .i64 (b : Int), .int .i64 n] 50)).cell? ⟨w.heap.size, 2, none⟩ = some (.int .i64 (a : Int)) := (Blk.new w _ _).cell 2
      have r3 : (w.alloc (.cells #[.int .i64 op, .int .i64 (d : Int), .int .i64 (a : Int), .int .i64 (b : Int), .int .i64 n] 50)).cell? ⟨w.heap.size, 3, none⟩ = some (.int .i64 (b : Int)) := (Blk.new w _ _).cell 3
      have H1 := Lib.hid (H.out.alloc (.cells #[.int .i64 op, .int .i64 (d : Int), .int .i64 (a : Int), .int .i64 (b : Int), .int .i64 n] 50))
      have F1 := Lib.hid ((Fr.refl (SrS L sb) w).alloc (.cells #[.int .i64 op, .int .i64 (d : Int), .int .i64 (a : Int), .int .i64 (b : Int), .int .i64 n] 50))
      have hz : w.heap.size < (w.alloc (.cells #[.int .i64 op, .int .i64 (d : Int), .int .i64 (a : Int), .int .i64 (b : Int), .int .i64 n] 50)).heap.size := by simp
      skip
      generalize (w.alloc (.cells #[.int .i64 op, .int .i64 (d : Int), .int .i64 (a : Int), .int .i64 (b : Int), .int .i64 n] 50)) = W at *
      have c1 := H1.out.reg ha
      rw [HX.out] at c1
      have hS : W.drew.cell? ⟨w.heap.size, 2, none⟩ = some (.int .i64 (a : Int)) ∧ W.drew.cell? ⟨sb, a, none⟩ = some (.int .i64 x) := ⟨r2, c1⟩
      refine wp_region_seqT (fun i => !([] : List Nat).contains i) (fun i => ([2, 6] : List Nat).contains i) (fun i => ([] : List Nat).contains i) [0, 1, 2, 3, 4, 5, 6, 7, 8] (fun wq : World => wq.cell? ⟨w.heap.size, 2, none⟩ = some (.int .i64 (a : Int)) ∧ wq.cell? ⟨sb, a, none⟩ = some (.int .i64 x)) (by kernel_rfl) (by kernel_rfl) (by kernel_rfl) (by kernel_rfl) ?_
      repeat (first | refine wpSeq_pureA (v := _) rfl rfl rfl ?_ | refine wpSeq_loadA (v := _) rfl rfl hS rfl ?_)
      refine wpSeq_end ?_
      clear c1
      have H1 := Lib.hid H1.out.drew
      have F1 := Lib.hid F1.out.drew
      replace r1 : W.drew.cell? ⟨w.heap.size, 1, none⟩ = some (.int .i64 (d : Int)) := r1
      replace r2 : W.drew.cell? ⟨w.heap.size, 2, none⟩ = some (.int .i64 (a : Int)) := r2
      replace r3 : W.drew.cell? ⟨w.heap.size, 3, none⟩ = some (.int .i64 (b : Int)) := r3
      replace hz : w.heap.size < W.drew.heap.size := hz
      skip
      clear hS
      generalize W.drew = W at *
      go_wp2_with fail
      have fz := H1.out.drew.blk.frozen d
      have c0 := H1.out.drew.reg hd
      have hS : W.drew.cell? ⟨w.heap.size, 1, none⟩ = some (.int .i64 (d : Int)) := r1
      refine wp_region_seqT (fun i => !([7] : List Nat).contains i) (fun i => ([2] : List Nat).contains i) (fun i => ([] : List Nat).contains i) [0, 1, 2, 3, 4, 5, 6, 7] (fun wq : World => wq.cell? ⟨w.heap.size, 1, none⟩ = some (.int .i64 (d : Int))) (by kernel_rfl) (by kernel_rfl) (by kernel_rfl) (by kernel_rfl) ?_
      repeat (first | refine wpSeq_pureA (v := _) rfl rfl rfl ?_ | refine wpSeq_loadA (v := _) rfl rfl hS rfl ?_)
      refine wpSeq_heavy rfl rfl (fun K hK => ?_); go_simp
      refine hK _ _ (fun h => by cases h) ?_; clear hK K
      refine wpSeq_end ?_
      go_wp2
      go_end0
      exact FIN.out _ e.out.symm _ H1.out.drew F1.out.drew
end Go.Proofs.YtnhebmgibiomnaaGreat
namespace Go.Proofs.YtnhebmgibiomnaaGreat
open Go.RowKit Mc
theorem pts_coord {l : List (Int × Int)} {i : Nat} {v : Int × Int} (h : l[i]? = some v) (axis : Int) : (pts l)[i * 2 + (if axis = 1 then 1 else 0)]? = some (.int .i64 (coord axis v)) := by
  have := pts_get h
  unfold coord
  split
  · rw [Nat.mul_comm]; exact this.2
  · rw [Nat.mul_comm]; exact this.1
end Go.Proofs.YtnhebmgibiomnaaGreat
namespace Go.Proofs.YtnhebmgibiomnaaGreat
open Go.RowKit Mc
theorem pts_set : ∀ {l : List (Int × Int)} {i : Nat} {x : Int × Int} (_ : l[i]? = some x) (axis v : Int), pts (l.set i (to_ axis x v)) = (pts l).set (i * 2 + (if axis = 1 then 1 else 0)) (.int .i64 (k32 v))
  | a :: l, 0, x, h, axis, v => by
    simp only [List.getElem?_cons_zero, Option.some.injEq] at h
    subst h
    unfold to_
    split <;> simp [pts]
  | a :: l, i + 1, x, h, axis, v => by
    have ih := pts_set (l := l) (i := i) (x := x) h axis v
    have : (pts (a :: l)).set ((i + 1) * 2 + (if axis = 1 then 1 else 0)) (.int .i64 (k32 v)) = .int .i64 a.1 :: .int .i64 a.2 :: (pts l).set (i * 2 + (if axis = 1 then 1 else 0)) (.int .i64 (k32 v)) := by
      rw [show (i + 1) * 2 + (if axis = 1 then 1 else 0) = (i * 2 + (if axis = 1 then 1 else 0)) + 1 + 1 by omega]
      rfl
    rw [this, ← ih]
    rfl
  | [], i, x, h, _, _ => by simp at h
section
variable {w w' : World} {mb : Nat} {O : Nat → Prop} {L : Lay} {s : St}
theorem Mc.Ok.cur_ (h : Ok s) {l : List (Int × Int)} (h1 : ∀ p ∈ l, K32 p.1 ∧ K32 p.2) (h2 : l.length = s.cur.length) : Ok { s with cur := l } :=
  ⟨h.stack, h.slen, h.cvt, h.store, h.stl, h1, h.org, by rw [h.orgl]; exact h2.symm, h.touch, by rw [h.tl]; exact h2.symm, h.size, h.look, h.move, h.mode, h.peak, h.frames, h.flen, h.funcs, h.fnl, fun c hc => by have := h.cont c hc; simp only [h2]; exact this, h.contl, by rw [h2]; exact h.curl, h.cvl, h.endl⟩
theorem Mc.Ok.touch_ (h : Ok s) {l : List Int} (h1 : ∀ t ∈ l, 0 ≤ t ∧ t ≤ 3) (h2 : l.length = s.touch.length) : Ok { s with touch := l } :=
  ⟨h.stack, h.slen, h.cvt, h.store, h.stl, h.cur, h.org, h.orgl, h1, by rw [← h.tl]; exact h2, h.size, h.look, h.move, h.mode, h.peak, h.frames, h.flen, h.funcs, h.fnl, h.cont, h.contl, h.curl, h.cvl, h.endl⟩
theorem to_k (axis : Int) (p : Int × Int) (v : Int) (h : K32 p.1 ∧ K32 p.2) : K32 (to_ axis p v).1 ∧ K32 (to_ axis p v).2 := by
  unfold to_
  split
  · exact ⟨h.1, k32_in v⟩
  · exact ⟨k32_in v, h.2⟩
theorem MaL.setCu (h : MaL w mb O L s) {g m c : Nat} (hv : L.cu = .slice (some ⟨g, 0, none⟩) m c) {i : Nat} {x : Int × Int} (hi : s.cur[i]? = some x) (axis v : Int) : MaL (w.setCell ⟨g, i * 2 + (if axis = 1 then 1 else 0), none⟩ (.int .i64 (k32 v))) mb O L { s with cur := s.cur.set i (to_ axis x v) } := by
  have hob : L.cu.ownBlock = some g := by rw [hv]; rfl
  have hg : g ≠ mb := h.cu.ne_blk h.blk (by decide) hob
  have hil := (List.getElem?_eq_some_iff.1 hi).1
  refine h.cur_ (by simp) ?_ (Below.heap_setCell _ _ _ _ hg.symm) (fun k _ _ hk => Below.heap_setCell _ _ _ _ (fun e => hk (by rw [hob, e]))) (fun _ h => h) (fun k hk => by have := h.olt k hk; simpa [World.setCell] using this) (h.ok.cur_ (fun p hp => ?_) (by simp))
  · rw [pts_set hi]
    refine h.cu.set_ hob (by rw [pts_len]; split <;> omega) _
  · rcases List.mem_or_eq_of_mem_set hp with hp | rfl
    · exact h.ok.cur p hp
    · exact to_k _ _ _ (h.ok.cur x (List.mem_of_getElem? hi))
theorem MaL.setTo (h : MaL w mb O L s) {g m c : Nat} (hv : L.to = .slice (some ⟨g, 0, none⟩) m c) {i : Nat} (hi : i < s.touch.length) {t : Int} (ht : 0 ≤ t ∧ t ≤ 3) : MaL (w.setCell ⟨g, i, none⟩ (.int .i64 t)) mb O L { s with touch := s.touch.set i t } := by
  have hob : L.to.ownBlock = some g := by rw [hv]; rfl
  have hg : g ≠ mb := h.to.ne_blk h.blk (by decide) hob
  refine h.touch_ (by simp) ?_ (Below.heap_setCell _ _ _ _ hg.symm) (fun k _ _ hk => Below.heap_setCell _ _ _ _ (fun e => hk (by rw [hob, e]))) (fun _ h => h) (fun k hk => by have := h.olt k hk; simpa [World.setCell] using this) (h.ok.touch_ (fun p hp => ?_) (by simp))
  · rw [ints_set]
    exact h.to.set_ hob (by rw [ints_len]; exact hi) _
  · rcases List.mem_or_eq_of_mem_set hp with hp | rfl
    · exact h.ok.touch p hp
    · exact ht
end
def tbit (axis t : Int) : Int := if bit axis t then t else t + (axis + 1)
theorem tbit_in {axis t : Int} (ha : 0 ≤ axis ∧ axis ≤ 1) (ht : 0 ≤ t ∧ t ≤ 3) : 0 ≤ tbit axis t ∧ tbit axis t ≤ 3 := by
  obtain ⟨h1, h2⟩ := ha
  obtain ⟨h3, h4⟩ := ht
  have e1 : axis = 0 ∨ axis = 1 := by omega
  have e2 : t = 0 ∨ t = 1 ∨ t = 2 ∨ t = 3 := by omega
  rcases e1 with rfl | rfl <;> rcases e2 with rfl | rfl | rfl | rfl <;> decide
theorem bits_tbit {axis t : Int} (ha : 0 ≤ axis ∧ axis ≤ 1) (ht : 0 ≤ t ∧ t ≤ 3) : bits BinOp.or IntKind.i64 t (axis + 1) = tbit axis t := by
  obtain ⟨h1, h2⟩ := ha
  obtain ⟨h3, h4⟩ := ht
  have e1 : axis = 0 ∨ axis = 1 := by omega
  have e2 : t = 0 ∨ t = 1 ∨ t = 2 ∨ t = 3 := by omega
  rcases e1 with rfl | rfl <;> rcases e2 with rfl | rfl | rfl | rfl <;> rfl
section
variable {w w' : World} {mb : Nat} {O : Nat → Prop} {L : Lay} {s : St}
theorem MaL.pt (h : MaL w mb O L s) {p : Nat} (hp : p < s.cur.length) : ∃ g c x, L.cu = .slice (some ⟨g, 0, none⟩) s.cur.length c ∧ s.cur.length ≤ c ∧ s.cur[p]? = some x ∧ g < w.heap.size ∧ ∀ axis, w.cell? ⟨g, p * 2 + (if axis = 1 then 1 else 0), none⟩ = some (.int .i64 (coord axis x)) := by
  obtain ⟨x, hx⟩ : ∃ x, s.cur[p]? = some x := ⟨_, List.getElem?_eq_getElem hp⟩
  obtain ⟨g, c, hv, hc1, hc2, hg, hgl, hcells, hfz⟩ := h.cu.at_ (by omega)
  exact ⟨g, c, x, hv, hc1, hx, hgl, fun axis => hcells _ _ (pts_coord hx axis)⟩
end
end Go.Proofs.YtnhebmgibiomnaaGreat
namespace Go.Proofs.YtnhebmgibiomnaaGreat
open Go.RowKit Mc
theorem has_nat {s : St} {x : Int} (h : has s x = true) : ∃ i : Nat, x = i ∧ i < s.cur.length := by
  simp only [has, decide_eq_true_eq] at h
  exact ⟨x.toNat, by omega, by omega⟩
end Go.Proofs.YtnhebmgibiomnaaGreat
namespace Go.Proofs.YtnhebmgibiomnaaGreat
open Go.RowKit Mc
end Go.Proofs.YtnhebmgibiomnaaGreat

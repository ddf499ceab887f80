/- The machine's Step: its contract. -/
import Derived.Test.YthdmdgmchkhngaaGreatMaY
namespace Go.Proofs.YthdmdgmchkhngaaGreat
open Go.RowKit Mc

theorem max_if (x y : Int) : (if x < y then y else x) = max x y := by omega
theorem deed_steps (n a : Int) (s : St) : (deed n a s).steps = s.steps ∧ (deed n a s).peak = s.peak := by
  unfold deed
  simp only
  split <;> first | exact ⟨rfl, rfl⟩ | skip
  all_goals first
    | (unfold goes; split <;> exact ⟨rfl, rfl⟩)
    | (unfold pass; split <;> exact ⟨rfl, rfl⟩)
    | (unfold call; split <;> exact ⟨rfl, rfl⟩)
    | (unfold pass; split <;> split <;> exact ⟨rfl, rfl⟩)
    | (unfold pass; split; (split <;> exact ⟨rfl, rfl⟩); exact ⟨rfl, rfl⟩)

/-- where next tells an instruction -/
theorem next_some {s s' : St} {op a : Int} (h : next s = (s', some (op, a))) :
    ∃ f r, s'.frames = f :: r ∧ f.next < f.code.length ∧ ∃ n : Nat, op = n ∧ 1 ≤ n ∧ n ≤ 39 ∧ bump s' = { s' with frames := { f with next := f.next + 1 } :: r } ∧ CanDo n a (bump s') ∧ s'.steps = s.steps ∧ s'.peak = s.peak := by
  unfold next at h
  split at h
  · cases h
  · cases hfs : Mc.settle s.frames with
    | nil => rw [hfs] at h; cases h
    | cons f r =>
      rw [hfs] at h
      simp only at h
      generalize hE : wrong { s with frames := f :: r } (f.code.getD f.next (0, 0)).1 (f.code.getD f.next (0, 0)).2 (f.code.length - 1 - f.next : Int) = e at h
      by_cases h0 : e = 0
      · rw [if_pos h0] at h
        injection h with h1 h2
        injection h2 with h2
        rw [h2] at hE
        simp only at hE
        rw [h0] at hE
        have hb : bump s' = { s' with frames := { f with next := f.next + 1 } :: r } := by subst h1; rfl
        have hlt : f.next < f.code.length := by
          have : ∀ (l : List Fm) f r, Mc.settle l = f :: r → f.next < f.code.length := by
            intro l
            induction l with
            | nil => intro f r h; cases h
            | cons g q ih =>
              intro f r h
              unfold Mc.settle at h
              split at h
              · injection h with e1 e2; subst e1; assumption
              · split at h
                · injection h with e1 e2; subst e1; simp only; omega
                · exact ih f r h
          exact this _ _ _ hfs
        unfold wrong at hE
        split at hE
        · cases hE
        · split at hE
          · cases hE
          · split at hE
            · cases hE
            · split at hE
              · cases hE
              · rename_i q1 q2 q3 q4
                simp only at q2 q3 q4
                obtain ⟨n, hn⟩ := Int.eq_ofNat_of_zero_le (show 0 ≤ op by omega)
                refine ⟨f, r, by subst h1; rfl, hlt, n, hn, by omega, by omega, hb, ?_, by subst h1; rfl, by subst h1; rfl⟩
                rw [hb]
                rw [hn] at q2 q3 q4
                subst h1
                refine ⟨by simp only; omega, by simp only; omega, fun hj => ⟨_, _, rfl, ?_⟩, fun hj => ?_⟩
                · simp only
                  have : ¬ (a < 0 ∨ (f.code.length - 1 - f.next : Int) < a) := fun hh => q3 ⟨by omega, hh⟩
                  omega
                · simp only [List.length_cons] at q4 ⊢
                  have : ¬ (a < 0 ∨ (s.funcs.length : Int) ≤ a ∨ 20 < r.length + 1) := fun hh => q4 ⟨by omega, hh⟩
                  omega
      · rw [if_neg h0] at h
        cases h
theorem step_none {s s' : St} (h : next s = (s', none)) : Mc.step s = (s', false) := by unfold Mc.step; rw [h]
theorem step_some {s s' : St} {ins : Int × Int} (h : next s = (s', some ins)) : Mc.step s = ({ deed ins.1 ins.2 (bump s') with steps := (deed ins.1 ins.2 (bump s')).steps + 1, peak := max (deed ins.1 ins.2 (bump s')).peak (deed ins.1 ins.2 (bump s')).stack.length }, true) := by unfold Mc.step; rw [h]

/-- what Step leaves -/
def SPost (w : World) (mb : Nat) (O : Nat → Prop) (s : St) (e : Ending) (w' : World) : Prop := e = .returned (.bool (Mc.step s).2) ∧ (∃ L', MaL w' mb (ext O w w') L' (Mc.step s).1) ∧ Fr O w w'
theorem deed_at {w : World} {O : Nat → Prop} {db : Nat} (h : Deeds w O db) {n : Nat} (h1 : 1 ≤ n) (h2 : n ≤ 39) :
    ∃ bs, DeedBox w O bs n ∧ ∀ W : World, W.heap[db]? = w.heap[db]? → Sem.run Tryz.prog (Instr.lookup 83 (.map (some db)) (.int .i64 (n : Int)) false) W = .ok (deedV bs n) W := by
  obtain ⟨_, bs, clock, hm, hbx⟩ := h
  refine ⟨bs, hbx n h1 h2, fun W hW => ?_⟩
  rw [hm] at hW
  have hj : (deedEs bs 39).toArray.toList[n - 1]? = some ⟨.int .i64 ((n - 1 + 1 : Nat) : Int), deedV bs (n - 1 + 1), n - 1⟩ := by
    unfold deedEs
    rw [List.toList_toArray, List.getElem?_map, List.getElem?_range (by omega)]
    rfl
  rw [show n - 1 + 1 = n by omega] at hj
  refine run_lookup_at (P := Tryz.prog) Tryz.underlying83 Tryz.underlying3 hW hj rfl fun j' e' hj' he' => ?_
  unfold deedEs at he'
  rw [List.toList_toArray, List.getElem?_map, List.getElem?_range (by omega)] at he'
  simp only [Option.map_some, Option.some.injEq] at he'
  subst he'
  exact ⟨_, rfl, by omega⟩

set_option maxRecDepth 100000 in
set_option maxHeartbeats 4000000 in
theorem step_any (w : World) (mb : Nat) (O : Nat → Prop) (L : Lay) (s : St) (h : MaL w mb O L s) (hst : s.steps ≤ 1000000000) :
    Calls Tryz.prog 18 #[.pointer (some ⟨mb, 0, none⟩)] w (SPost w mb O s) := by
  have HN := Lib.hid (next_any w mb O L s h)
  have hmbl := h.blk.lt
  clear h
  go_enter Tryz.func18, Tryz.ntmps18
  go_wp2_with fail
  refine HN.out.mono ?_
  rintro e w1 ⟨⟨x, y, rfl, hxy⟩, ⟨L1, hM1⟩, hF1⟩
  clear HN
  rcases hnx : next s with ⟨s', o⟩
  rw [hnx] at hxy hM1
  simp only at hxy hM1
  cases o with
  | none =>
    have HP : Hid (SPost w mb O s (.returned (.bool false)) (w1.alloc (.cells #[.int .i64 x, .int .i64 y] 61))) := Lib.hid ⟨by rw [step_none hnx], ⟨L1, by rw [step_none hnx]; exact (hM1.alloc _).mono (fun _ h => .inl h) (fun k hk => by rcases hk with hk | hk; exact (hM1.alloc _).olt k hk; exact hk.2)⟩, hF1.alloc _⟩
    clear hM1 hF1 hxy
    simp only [Option.isSome_none]
    go_wp2_with fail
    go_ret
    exact HP.out
  | some ins =>
    have := hxy ins rfl
    subst this
    obtain ⟨f, r, hfr, hfl, n, rfl, hn1, hn2, hbump, hcan, hs1, hs2⟩ := next_some hnx
    simp only [Option.isSome_some]
    have HSS := Lib.hid (step_some hnx)
    obtain ⟨g, c, v, vs, ht0⟩ := hM1.top hfr
    have hokf := hM1.ok.frames f (by rw [hfr]; simp)
    have hM := hM1.alloc (.cells #[.int .i64 (n : Int), .int .i64 y] 61)
    have hF := hF1.alloc (.cells #[.int .i64 (n : Int), .int .i64 y] 61)
    have hib : g ≠ w1.heap.size := fun e => hM1.notO (Nat.le_refl _) (e ▸ ht0.gO)
    have hBi := Blk.new w1 61 #[.int .i64 (n : Int), .int .i64 y]
    have HNO := Lib.hid (hM1.notO (Nat.le_refl w1.heap.size))
    have ht : Top (w1.alloc (.cells #[.int .i64 (n : Int), .int .i64 y] 61)) mb O L1 s' f r g c v vs := ht0.keep (fun k hk => Below.heap_alloc _ _ _ (hM1.olt k hk)) (by simp)
    have HCAN := Lib.hid hcan
    have HS1 := Lib.hid hs1
    clear hM1 hF1 ht0 hxy hcan hs1 hs2 hnx
    go_wp2_with fail
    generalize w1.alloc (.cells #[.int .i64 (n : Int), .int .i64 y] 61) = W at *
    generalize w1.heap.size = ib at *
    have HM2 : Hid (MaL ((W.setCell ⟨g, r.length * 3 + 1, none⟩ (.int .i64 ((f.next : Int) + 1))).drew) mb O L1 (bump s')) := Lib.hid (by
      rw [hbump, show (f.next : Int) + 1 = ((f.next + 1 : Nat) : Int) by omega]
      exact (hM.setFm hfr ht (f' := { f with next := f.next + 1 }) (n := f.next + 1) (j := r.length * 3 + 1) (by omega) rfl (frC_set1 _ vs f r ht.vsl _) ⟨by simp only; omega, hokf.2.1⟩).drew)
    have HF2 := Lib.hid ((hF.setCell (p := ⟨g, r.length * 3 + 1, none⟩) (.inl ht.gO) (.int .i64 ((f.next : Int) + 1))).drew)
    have HI2 := Lib.hid ((hBi.far (p := ⟨g, r.length * 3 + 1, none⟩) hib.symm (.int .i64 ((f.next : Int) + 1))).drew)
    have t1 := ht.c1
    have tf1 := ht.fz (r.length * 3 + 1)
    have tg := ht.glt
    have tgm := ht.gmb
    have tcap := ht.cap
    have c1 := hM.blk.cell 1
    rw [hM.c.c1, ht.fr] at c1
    have lmb := hM.blk.lt
    have hfl2 := hM.ok.flen
    rw [hfr, List.length_cons] at hfl2
    obtain ⟨hb1, hb2, hb3⟩ := hokf
    clear hM hF ht hfr hbump hBi hib
    generalize hm : r.length = m at *
    generalize hnx : f.next = nx at *
    clear hm hnx
    obtain ⟨k, hk1, hk2, hk⟩ : ∃ k, m < k ∧ k ≤ m + 1 ∧ m + 1 = k := ⟨m + 1, by omega, by omega, rfl⟩
    rw [hk] at c1 tcap
    clear hk
    have hw1 : IntKind.i64.wrap ((k : Int) - 1) = (m : Int) := by rw [IntWalk.i64_in _ (by omega)]; omega
    have hw2 : IntKind.i64.wrap ((nx : Int) + 1) = (nx : Int) + 1 := by rw [IntWalk.i64_in _ (by omega)]
    go_region
    go_wp2_with fail
    clear t1 tf1 tg c1 lmb hw1 hw2
    generalize (W.setCell ⟨g, m * 3 + 1, none⟩ (.int .i64 ((nx : Int) + 1))).drew = W2 at *
    generalize hsb : bump s' = sb at *
    have i0 := HI2.out.cell 0
    have i1 := HI2.out.cell 1
    simp only [List.getElem?_toArray, List.getElem?_cons_zero, List.getElem?_cons_succ] at i0 i1
    have c49 := HM2.out.blk.cell 49
    rw [HM2.out.c.c49] at c49
    obtain ⟨bs, hbx, hlk0⟩ := deed_at HM2.out.dd hn1 hn2
    have hlk := hlk0 W2.drew rfl
    obtain ⟨id, hid1, hid2, hcall⟩ := deed_any HM2.out.drew (a := y) hn1 hn2 HCAN.out (hbx.keep rfl (fun _ _ _ h => h.drew) (fun _ h => h))
    have hcap : ∃ caps, deedV bs n = .func (.func id) #[] caps ∧ (caps = #[] ∨ ∃ p, caps = #[p]) ∧ Calls Tryz.prog id (#[.pointer (some ⟨mb, 0, none⟩), .int .i64 y] ++ caps) W2.drew (MPost W2.drew mb O (deed n y sb)) := by
      unfold deedV
      rw [hid1]
      cases hq : (deedFn n).2 with
      | none => rw [hq] at hcall; exact ⟨_, rfl, .inl rfl, hcall⟩
      | some q => rw [hq] at hcall; exact ⟨_, rfl, .inr ⟨_, rfl⟩, hcall⟩
    obtain ⟨caps, hv, hcaps, hcall⟩ := hcap
    rw [hv] at hlk
    have HDS := Lib.hid (deed_steps (n : Int) y sb)
    have hsbs : sb.steps = s.steps := by rw [← HS1.out, ← hsb]; unfold bump; split <;> rfl
    clear hlk0 hbx hv hid1 hsb
    have HSB := Lib.hid hsbs
    clear hsbs
    rcases hcaps with rfl | ⟨p, rfl⟩
    · have HCALL : Hid (Calls Tryz.prog id #[.pointer (some ⟨mb, 0, none⟩), .int .i64 y] W2.drew (MPost W2.drew mb O (deed n y sb))) := Lib.hid (by first | exact hcall | simpa using hcall)
      go_still_tail 10, (by kernel_rfl)
      change wpList _ _ _ _ _ W2.drew
      go_wp2_with fail
      refine HCALL.out.mono ?_
      rintro e w3 ⟨rfl, ⟨L3, hM3⟩, hF3⟩
      clear HCALL hcall hlk hid2 i0 i1 c49 HI2
      generalize deed n y sb = d at *
      have hds : d.steps ≤ 1000000000 := by rw [HDS.out.1, HSB.out]; exact hst
      have hpk := hM3.ok.peak
      have hsl := hM3.ok.slen
      obtain ⟨Ak, ck, hvk, _, _⟩ := hM3.sk.form
      have c40 := hM3.blk.cell 40
      rw [hM3.c.c40, hvk] at c40
      have c45 := hM3.blk.cell 45
      rw [hM3.c.c45] at c45
      have c46 := hM3.blk.cell 46
      rw [hM3.c.c46] at c46
      have f45 := hM3.blk.frozen 45
      have f46 := hM3.blk.frozen 46
      have lmb3 := hM3.blk.lt
      have h4 := hM3.set_ (hM3.c.setSteps (d.steps + 1)) (hM3.ok.cells_ hM3.ok.store hM3.ok.stl hM3.ok.look hM3.ok.move hM3.ok.mode hM3.ok.peak)
      have hF4 := hF3.setCell (p := ⟨mb, 45, none⟩) (.inl HM2.out.mbO) (.int .i64 ((d.steps + 1 : Nat) : Int))
      have h5 := h4.set_ (h4.c.setPeak (max d.peak d.stack.length)) (h4.ok.cells_ h4.ok.store h4.ok.stl h4.ok.look h4.ok.move h4.ok.mode (by omega))
      have hF5 := hF4.setCell (p := ⟨mb, 46, none⟩) (.inl HM2.out.mbO) (.int .i64 ((max d.peak d.stack.length : Nat) : Int))
      have hcs : ((d.steps + 1 : Nat) : Int) = (d.steps : Int) + 1 := by omega
      have hcm : ((max d.peak d.stack.length : Nat) : Int) = max (d.peak : Int) (d.stack.length : Int) := by omega
      rw [hcs] at h4 h5 hF4 hF5
      rw [hcm] at h5 hF5
      have HP : Hid (SPost w mb O s (.returned (.bool true)) ((((w3.setCell ⟨mb, 45, none⟩ (.int .i64 ((d.steps : Int) + 1))).setCell ⟨mb, 46, none⟩ (.int .i64 (max (d.peak : Int) (d.stack.length : Int))))).drew)) := Lib.hid (by
        have hz1 := HF2.out.size
        have hz2 := hF3.size
        unfold SPost
        rw [HSS.out]
        refine ⟨rfl, ⟨_, h5.drew.mono (fun k hk => ?_) (fun k hk => ?_)⟩, HF2.out.drew.trans hF5.drew⟩
        · rcases hk with hk | hk
          · exact .inl hk
          · refine .inr ⟨?_, ?_⟩
            · have : W2.drew.heap.size = W2.heap.size := rfl
              omega
            · have := hk.2; simpa [World.setCell] using this
        · rcases hk with hk | hk
          · exact h5.drew.olt k (.inl hk)
          · exact hk.2)
      clear h4 h5 hF4 hF5 hcs hcm hvk hM3 hF3
      generalize d.steps = dst at *
      generalize d.peak = dpk at *
      generalize d.stack.length = dsl at *
      have hw5 : IntKind.i64.wrap ((dst : Int) + 1) = (dst : Int) + 1 := by rw [IntWalk.i64_in _ (by omega)]
      go_wp2_with fail
      have c46' : (w3.setCell ⟨mb, 45, none⟩ (.int .i64 ((dst : Int) + 1))).cell? ⟨mb, 46, none⟩ = some (.int .i64 dpk) := (World.cell?_setCell_other _ _ _ _ (fun e => by injection e with e1 e2; omega)).trans c46
      have c40' : (w3.setCell ⟨mb, 45, none⟩ (.int .i64 ((dst : Int) + 1))).cell? ⟨mb, 40, none⟩ = some (.slice Ak dsl ck) := (World.cell?_setCell_other _ _ _ _ (fun e => by injection e with e1 e2; omega)).trans c40
      have f46' : (w3.setCell ⟨mb, 45, none⟩ (.int .i64 ((dst : Int) + 1))).frozen? ⟨mb, 46, none⟩ = false := by rw [World.frozen?_setCell]; exact f46
      have lmb4 : mb < (w3.setCell ⟨mb, 45, none⟩ (.int .i64 ((dst : Int) + 1))).heap.size := by simpa [World.setCell] using lmb3
      clear c40 c45 c46 f45 f46 lmb3 hw5
      generalize w3.setCell ⟨mb, 45, none⟩ (.int .i64 ((dst : Int) + 1)) = W4 at *
      by_cases hdl : (dpk : Int) < (dsl : Int)
      · rw [show max (dpk : Int) (dsl : Int) = dsl by omega] at HP
        go_region
        go_wp2_with fail
        go_ret
        exact HP.out
      · rw [show max (dpk : Int) (dsl : Int) = dpk by omega] at HP
        go_region
        go_wp2_with fail
        go_ret
        exact HP.out
    · have HCALL : Hid (Calls Tryz.prog id #[.pointer (some ⟨mb, 0, none⟩), .int .i64 y, p] W2.drew (MPost W2.drew mb O (deed n y sb))) := Lib.hid (by first | exact hcall | simpa using hcall)
      go_still_tail 10, (by kernel_rfl)
      change wpList _ _ _ _ _ W2.drew
      go_wp2_with fail
      refine HCALL.out.mono ?_
      rintro e w3 ⟨rfl, ⟨L3, hM3⟩, hF3⟩
      clear HCALL hcall hlk hid2 i0 i1 c49 HI2
      generalize deed n y sb = d at *
      have hds : d.steps ≤ 1000000000 := by rw [HDS.out.1, HSB.out]; exact hst
      have hpk := hM3.ok.peak
      have hsl := hM3.ok.slen
      obtain ⟨Ak, ck, hvk, _, _⟩ := hM3.sk.form
      have c40 := hM3.blk.cell 40
      rw [hM3.c.c40, hvk] at c40
      have c45 := hM3.blk.cell 45
      rw [hM3.c.c45] at c45
      have c46 := hM3.blk.cell 46
      rw [hM3.c.c46] at c46
      have f45 := hM3.blk.frozen 45
      have f46 := hM3.blk.frozen 46
      have lmb3 := hM3.blk.lt
      have h4 := hM3.set_ (hM3.c.setSteps (d.steps + 1)) (hM3.ok.cells_ hM3.ok.store hM3.ok.stl hM3.ok.look hM3.ok.move hM3.ok.mode hM3.ok.peak)
      have hF4 := hF3.setCell (p := ⟨mb, 45, none⟩) (.inl HM2.out.mbO) (.int .i64 ((d.steps + 1 : Nat) : Int))
      have h5 := h4.set_ (h4.c.setPeak (max d.peak d.stack.length)) (h4.ok.cells_ h4.ok.store h4.ok.stl h4.ok.look h4.ok.move h4.ok.mode (by omega))
      have hF5 := hF4.setCell (p := ⟨mb, 46, none⟩) (.inl HM2.out.mbO) (.int .i64 ((max d.peak d.stack.length : Nat) : Int))
      have hcs : ((d.steps + 1 : Nat) : Int) = (d.steps : Int) + 1 := by omega
      have hcm : ((max d.peak d.stack.length : Nat) : Int) = max (d.peak : Int) (d.stack.length : Int) := by omega
      rw [hcs] at h4 h5 hF4 hF5
      rw [hcm] at h5 hF5
      have HP : Hid (SPost w mb O s (.returned (.bool true)) ((((w3.setCell ⟨mb, 45, none⟩ (.int .i64 ((d.steps : Int) + 1))).setCell ⟨mb, 46, none⟩ (.int .i64 (max (d.peak : Int) (d.stack.length : Int))))).drew)) := Lib.hid (by
        have hz1 := HF2.out.size
        have hz2 := hF3.size
        unfold SPost
        rw [HSS.out]
        refine ⟨rfl, ⟨_, h5.drew.mono (fun k hk => ?_) (fun k hk => ?_)⟩, HF2.out.drew.trans hF5.drew⟩
        · rcases hk with hk | hk
          · exact .inl hk
          · refine .inr ⟨?_, ?_⟩
            · have : W2.drew.heap.size = W2.heap.size := rfl
              omega
            · have := hk.2; simpa [World.setCell] using this
        · rcases hk with hk | hk
          · exact h5.drew.olt k (.inl hk)
          · exact hk.2)
      clear h4 h5 hF4 hF5 hcs hcm hvk hM3 hF3
      generalize d.steps = dst at *
      generalize d.peak = dpk at *
      generalize d.stack.length = dsl at *
      have hw5 : IntKind.i64.wrap ((dst : Int) + 1) = (dst : Int) + 1 := by rw [IntWalk.i64_in _ (by omega)]
      go_wp2_with fail
      have c46' : (w3.setCell ⟨mb, 45, none⟩ (.int .i64 ((dst : Int) + 1))).cell? ⟨mb, 46, none⟩ = some (.int .i64 dpk) := (World.cell?_setCell_other _ _ _ _ (fun e => by injection e with e1 e2; omega)).trans c46
      have c40' : (w3.setCell ⟨mb, 45, none⟩ (.int .i64 ((dst : Int) + 1))).cell? ⟨mb, 40, none⟩ = some (.slice Ak dsl ck) := (World.cell?_setCell_other _ _ _ _ (fun e => by injection e with e1 e2; omega)).trans c40
      have f46' : (w3.setCell ⟨mb, 45, none⟩ (.int .i64 ((dst : Int) + 1))).frozen? ⟨mb, 46, none⟩ = false := by rw [World.frozen?_setCell]; exact f46
      have lmb4 : mb < (w3.setCell ⟨mb, 45, none⟩ (.int .i64 ((dst : Int) + 1))).heap.size := by simpa [World.setCell] using lmb3
      clear c40 c45 c46 f45 f46 lmb3 hw5
      generalize w3.setCell ⟨mb, 45, none⟩ (.int .i64 ((dst : Int) + 1)) = W4 at *
      by_cases hdl : (dpk : Int) < (dsl : Int)
      · rw [show max (dpk : Int) (dsl : Int) = dsl by omega] at HP
        go_region
        go_wp2_with fail
        go_ret
        exact HP.out
      · rw [show max (dpk : Int) (dsl : Int) = dpk by omega] at HP
        go_region
        go_wp2_with fail
        go_ret
        exact HP.out
end Go.Proofs.YthdmdgmchkhngaaGreat

/- BoundHolds's walk. -/
import Derived.Test.YthdmdgmchkhngaaGreatMadeN
import Derived.Test.YthdmdgmchkhngaaGreatSpoilB
import Derived.Test.YthdmdgmchkhngaaGreatBdB
import Derived.Test.YthdmdgmchkhngaaGreatMnE
import Derived.Test.YthdmdgmchkhngaaGreatHolds
import Derived.Test.YthdmdgmchkhngaaGreatPt4
namespace Go.Proofs.YthdmdgmchkhngaaGreat
open Go.RowKit Mc

theorem reads_cut {w : World} {B size n m : Nat} {A : Option Addr} {xs : List Value} (h : Reads w B size A n xs) (hm : m ≤ n) : Reads w B size A m (xs.take (m * size)) := by
  refine ⟨by rw [List.length_take, h.1]; exact Nat.min_eq_left (Nat.mul_le_mul_right _ hm), fun hp => ?_⟩
  obtain ⟨b, off, e, hb, hc⟩ := h.2 (by omega)
  refine ⟨b, off, e, hb, fun j u hu => hc j u ?_⟩
  rw [List.getElem?_take] at hu
  split at hu
  · exact hu
  · cases hu
/-- a program that lies is one that a machine is made of -/
theorem pg_of {N0 B : Nat} {W : World} {A0 A1 A2 : Option Addr} {c0 c1 c2 : Nat} {fl : List (List (Int × Int))} {ml : List (Int × Int)} {cl : List Int} {size : Int} (h : ProgAt N0 B W A0 A1 A2 c0 c1 c2 fl ml cl size) : PgAt W B ⟨fl, ml, cl, size⟩ A0 A1 A2 := by
  refine ⟨?_, ?_, ?_⟩
  · obtain ⟨vs, h1, h2⟩ := rowsR_at h.f.2.2
    refine ⟨vs, h1, fun i code hc => ?_⟩
    obtain ⟨v, h3, A, c, rfl, h4⟩ := h2 i code hc
    rw [insCells_flat] at h4
    exact ⟨A, c, h3, h4⟩
  · have := codeR_reads h.m.2.2
    rwa [insCells_flat] at this
  · have := h.c.2.2.reads (fun x => [.int .i64 x]) fun _ _ h => h.1
    show Reads W B 1 A2 cl.length (cl.map (Value.int .i64))
    rw [List.map_eq_flatMap]
    exact this
theorem pgOk_of {fl : List (List (Int × Int))} {ml : List (Int × Int)} {cl : List Int} {size : Int} (h1 : fl.length ≤ 30) (h2 : ∀ f ∈ fl, f.length ≤ 300) (h3 : ml.length ≤ 300) (h4 : cl.length ≤ 300) : PgOk ⟨fl, ml, cl, size⟩ := ⟨by simp only; omega, fun c hc => by have := h2 c hc; omega, by simp only; omega, by simp only; omega⟩
theorem program_zero {ll : List (List (Int × Int))} {l : List (Int × Int)} (h : (Bd.program ll l).2 ≠ 0) : (Bd.program ll l).1 = ⟨0, 0, 0, 0⟩ := by
  unfold Bd.program at h ⊢
  split at h
  · rename_i h1; rw [if_pos h1]
  · rename_i h1
    rw [if_neg h1]
    unfold Bd.whole at h ⊢
    split at h
    · rename_i h2; rw [if_pos h2]
    · rename_i h2
      rw [if_neg h2]
      split at h
      · rename_i h3; rw [if_pos h3]
      · simp at h
theorem ZnAt.more7 {w : World} {B B' : Nat} {z : Zn} {oA uA tA eA : Option Addr} (h : ZnAt w B z oA uA tA eA) (hB : B ≤ B') : ZnAt w B' z oA uA tA eA := ⟨h.org.more hB, h.cur.more hB, h.touch.more hB, h.ends.more hB⟩
theorem PgAt.more7 {w : World} {B B' : Nat} {p : Pg} {fA mA cA : Option Addr} (h : PgAt w B p fA mA cA) (hB : B ≤ B') : PgAt w B' p fA mA cA := by
  obtain ⟨⟨cs, h1, h2⟩, h3, h4⟩ := h
  exact ⟨⟨cs, h1.more hB, fun i code hc => by obtain ⟨A, c, a, b⟩ := h2 i code hc; exact ⟨A, c, a, b.more hB⟩⟩, h3.more hB, h4.more hB⟩
/-- a run of a program that is bound -/
theorem run_holds {fl : List (List (Int × Int))} {ml : List (Int × Int)} {cl : List Int} {size : Int} {c : Bd.Cost} (z : Zn) (h : Bd.program fl ml = (c, 0)) :
    ∃ T : St, T = Mc.run c.steps.toNat (begin_ ⟨fl, ml, cl, size⟩ z) ∧ T.err = 0 ∧ (T.steps : Int) ≤ c.steps ∧ (T.peak : Int) ≤ c.peak ∧ (T.stack.length : Int) = c.delta ∧ c.steps ≤ 4096 ∧ c.peak ≤ 32 ∧ 0 ≤ c.steps := by
  obtain ⟨a1, a2, a3, a4, a5, a6, a7⟩ := Hd.holds h (s := begin_ ⟨fl, ml, cl, size⟩ z) rfl rfl rfl rfl rfl rfl rfl
  exact ⟨_, rfl, a1, a2, a3, a4, a5, a6, a7⟩

set_option maxHeartbeats 4000000 in
set_option maxRecDepth 100000 in
theorem boundHolds_walk (A P C : Option Addr) (ac pc cc : Nat) (xs ps cs : List Int) (w : World) (h1 : xs.length ≤ ac) (h2 : ac ≤ maxLen) (hr : RowAt (Repr.int (N0 := w.heap.size)) 3 w w.heap.size A xs)
    (p1 : ps.length ≤ pc) (p2 : pc ≤ maxLen) (pr : RowAt (Repr.int (N0 := w.heap.size)) 3 w w.heap.size P ps) (k1 : cs.length ≤ cc) (k2 : cc ≤ maxLen) (kr : RowAt (Repr.int (N0 := w.heap.size)) 3 w w.heap.size C cs) :
    Calls Tryz.prog 7 #[.slice A xs.length ac, .slice P ps.length pc, .slice C cs.length cc] w fun e w' => e = .returned (.bool true) ∧ Below w.heap.size w w' := by
  have hrd : Reads w w.heap.size 1 A xs.length (xs.map (Value.int .i64)) := by
    have := hr.reads (fun x => [.int .i64 x]) fun _ _ h => h.1
    rw [List.map_eq_flatMap]
    exact this
  have prd : Reads w w.heap.size 1 P ps.length (ps.map (Value.int .i64)) := by
    have := pr.reads (fun x => [.int .i64 x]) fun _ _ h => h.1
    rw [List.map_eq_flatMap]
    exact this
  have hxi : ∀ x ∈ xs, I64 x := by
    intro x hx
    obtain ⟨i, hi⟩ := List.getElem?_of_mem hx
    obtain ⟨_, _, _, _, _, hrel, _⟩ := hr.get hi
    exact hrel.2
  obtain ⟨m, hm⟩ : ∃ m, m = min xs.length 100 := ⟨_, rfl⟩
  have hml : m ≤ xs.length ∧ m ≤ 100 := by omega
  have hmi : (if (100 : Int) < (xs.length : Int) then (100 : Int) else (xs.length : Int)) = (m : Int) := by split <;> omega
  obtain ⟨n, hn⟩ : ∃ n, n = min ps.length 40 := ⟨_, rfl⟩
  have hnl : n ≤ ps.length ∧ n ≤ 40 := by omega
  have hni : (if (40 : Int) < (ps.length : Int) then (40 : Int) else (ps.length : Int)) = (n : Int) := by split <;> omega
  have hr2 := reads_cut hrd hml.1
  rw [Nat.mul_one, ← List.map_take] at hr2
  have pr2 := reads_cut prd hnl.1
  rw [Nat.mul_one, ← List.map_take] at pr2
  have hxi2 : ∀ x ∈ xs.take m, I64 x := fun x hx => hxi x (List.mem_of_mem_take hx)
  have hql : (ps.take n).length = n := by rw [List.length_take]; omega
  have HR := Lib.hid hr2
  have HX := Lib.hid hxi2
  have PR := Lib.hid pr2
  have KR := Lib.hid kr
  have HQL := Lib.hid hql
  unfold maxLen at h2 k2 p2
  have _h2i : (ac : Int) ≤ 9223372036854775807 := by omega
  have _k2i : (cc : Int) ≤ 9223372036854775807 := by omega
  have _p2i : (pc : Int) ≤ 9223372036854775807 := by omega
  clear hr hrd hm hr2 hxi hxi2 h2 kr pr prd pr2 hn k2 p2 hql
  generalize xs.length = nx at *
  generalize xs.take m = ys at *
  generalize ps.length = np at *
  generalize ps.take n = qs at *
  go_enter Tryz.func7, Tryz.ntmps7
  go_wp2_with fail
  refine (shown_any _).mono ?_
  rintro e w1 ⟨rfl, hb1⟩
  go_wp2_with fail
  refine (made18_any w.heap.size w1 A m _ ys hb1.size ((HR.out.below hb1 (Nat.le_refl _)).more hb1.size) HX.out (by omega)).mono ?_
  rintro e w2 ⟨A0, A1, A3, c0, c1, c3, fl, ml, cl, size, rfl, hpr, hf, hfb, hm', hb2⟩
  have hbw2 : Below w.heap.size w w2 := hb1.trans (hb2.mono hb1.size)
  clear hmi
  go_upto_region 3 with fail
  have hpb := Blk.new w2 28 #[.slice A0 fl.length c0, .slice A1 ml.length c1, .slice A3 cl.length c3, .int .i64 size]
  have hprX : ProgAt w.heap.size w2.heap.size (w2.alloc (.cells #[.slice A0 fl.length c0, .slice A1 ml.length c1, .slice A3 cl.length c3, .int .i64 size] 28)) A0 A1 A3 c0 c1 c3 fl ml cl size := hpr.below ((Below.refl _ _).alloc (Nat.le_refl _) _) (Nat.le_refl _)
  have hbwX := hbw2.alloc hbw2.size (.cells #[.slice A0 fl.length c0, .slice A1 ml.length c1, .slice A3 cl.length c3, .int .i64 size] 28)
  have hxz : w2.heap.size < (w2.alloc (.cells #[.slice A0 fl.length c0, .slice A1 ml.length c1, .slice A3 cl.length c3, .int .i64 size] 28)).heap.size := by simp
  have hwz := hbw2.size
  clear hpr hbw2 hb1 hb2 HR HX
  generalize w2.alloc (.cells #[.slice A0 fl.length c0, .slice A1 ml.length c1, .slice A3 cl.length c3, .int .i64 size] 28) = X0 at *
  generalize w2.heap.size = pb at *
  have hsm : ∀ l ∈ fl, l.length ≤ 1000000000000 := fun l hl => by have := hfb l hl; omega
  have hsm2 : ml.length ≤ 1000000000000 := by omega
  have hprog := program_any A0 A1 c0 c1 pb (.slice A3 cl.length c3) size fl ml X0 ⟨_, _, _, rfl⟩ (rowsR_at hprX.f.2.2) (codeR_reads hprX.m.2.2) (Nat.le_of_lt hxz) hsm hsm2
  have HPROG := Lib.hid hprog
  have HPB := Lib.hid hpb
  have HPR := Lib.hid hprX
  have HBW := Lib.hid hbwX
  have HFB := Lib.hid hfb
  have HOK := Lib.hid (fun z c (h : Bd.program fl ml = (c, 0)) cl' sz => run_holds (cl := cl') (size := sz) z h)
  have HZERO := Lib.hid (program_zero (ll := fl) (l := ml))
  rcases hpe : Bd.program fl ml with ⟨⟨q0, q1, q2, q3⟩, pe⟩
  rw [hpe] at HPROG
  have HPE := Lib.hid hpe
  have y0 := hpb.cell 0
  have y1 := hpb.cell 1
  have y2 := hpb.cell 2
  have y3 := hpb.cell 3
  simp only [List.getElem?_toArray, List.getElem?_cons_zero, List.getElem?_cons_succ] at y0 y1 y2 y3
  have _hfl30 : (fl.length : Int) ≤ 30 := by omega
  clear hprog hpb hprX hbwX hfb hsm hsm2 hpe
  go_wp2_with fail
  refine HPROG.out.mono ?_
  rintro e w3 ⟨rfl, hb3⟩
  simp only [costV]
  have hb3w := HBW.out.trans (hb3.mono (by have := HBW.out.size; omega))
  have HPB3 := Lib.hid (HPB.out.below hb3 hxz)
  have HPR3 := Lib.hid (HPR.out.below hb3 (Nat.le_of_lt hxz))
  have hx3 : pb < w3.heap.size := Nat.lt_of_lt_of_le hxz hb3.size
  have HBW3 := Lib.hid hb3w
  clear HPROG HPB HPR HBW hb3 hb3w y0 y1 y2 y3 hxz
  go_upto_region 4 with fail
  have HPB4 := Lib.hid (HPB3.out.alloc (.cells #[.int .i64 q0, .int .i64 q1, .int .i64 q2, .int .i64 q3] 54))
  have HPR4 := Lib.hid (HPR3.out.below ((Below.refl w3.heap.size w3).alloc (Nat.le_refl _) (.cells #[.int .i64 q0, .int .i64 q1, .int .i64 q2, .int .i64 q3] 54)) (Nat.le_of_lt hx3))
  have HBW4 := Lib.hid (HBW3.out.alloc HBW3.out.size (.cells #[.int .i64 q0, .int .i64 q1, .int .i64 q2, .int .i64 q3] 54))
  have HCB := Lib.hid (Blk.new w3 54 #[.int .i64 q0, .int .i64 q1, .int .i64 q2, .int .i64 q3])
  have hx4 : pb < (w3.alloc (.cells #[.int .i64 q0, .int .i64 q1, .int .i64 q2, .int .i64 q3] 54)).heap.size := HPB4.out.lt
  have hpc : ¬ pb = w3.heap.size := by omega
  have hcw : w.heap.size ≤ w3.heap.size := HBW3.out.size
  clear HPB3 HPR3 HBW3 hx3
  generalize w3.alloc (.cells #[.int .i64 q0, .int .i64 q1, .int .i64 q2, .int .i64 q3] 54) = X4 at *
  generalize w3.heap.size = cb at *
  have u0 := HCB.out.cell 0
  have u1 := HCB.out.cell 1
  have u2 := HCB.out.cell 2
  have u3 := HCB.out.cell 3
  simp only [List.getElem?_toArray, List.getElem?_cons_zero, List.getElem?_cons_succ] at u0 u1 u2 u3
  have ul := HCB.out.lt
  by_cases hz : pe = 0
  · subst hz
    --BRANCHES
    by_cases hcs : (0 : Int) < cs.length
    · have KRD : Reads w w.heap.size 1 C cs.length (cs.map (Value.int .i64)) := by
        have := KR.out.reads (fun x => [.int .i64 x]) fun _ _ h => h.1
        rw [List.map_eq_flatMap]
        exact this
      have H2 := Lib.hid KRD
      obtain ⟨x, hx⟩ : ∃ x, cs[0]? = some x := ⟨_, List.getElem?_eq_getElem (by omega)⟩
      obtain ⟨b, off, rfl, hb, hc⟩ := KRD.2 (by omega)
      have d0 := (HBW4.out.cell (p := ⟨b, off + 0, none⟩) hb).trans (hc 0 _ (by rw [List.getElem?_map, hx]; rfl))
      rw [Nat.add_zero] at d0
      have hbX : b < X4.heap.size := by have := HBW4.out.size; omega
      have y2 := HPB4.out.cell 2
      have y3 := HPB4.out.cell 3
      simp only [List.getElem?_toArray, List.getElem?_cons_zero, List.getElem?_cons_succ] at y2 y3
      have yf := HPB4.out.frozen 3
      have yf2 := HPB4.out.frozen 2
      obtain ⟨mm, hmm⟩ : ∃ mm, mm = min cs.length 20 := ⟨_, rfl⟩
      have hmm1 : 1 ≤ mm ∧ mm ≤ cs.length ∧ mm ≤ 20 := by omega
      have hmmi : (if (20 : Int) < (cs.length : Int) then (20 : Int) else (cs.length : Int)) = (mm : Int) := by split <;> omega
      have hbp : ¬ b = pb := by omega
      have HPGX : Hid (PgAt X4 pb ⟨fl, ml, cl, size⟩ A0 A1 A3) := Lib.hid (pg_of HPR4.out)
      have HX4 : Hid (PgOk ⟨fl, ml, [], 0⟩) := Lib.hid (pgOk_of hf HFB.out hm' (by simp))
      clear KRD hc hmm hx KR
      generalize hcl : cs.length = lc at *
      go_upto_region 8 with fail
      have HB7 : Hid (Blk (X4.setCell ⟨pb, 3, none⟩ (.int .i64 x)) pb 28 #[.slice A0 fl.length c0, .slice A1 ml.length c1, .slice A3 cl.length c3, .int .i64 x]) := Lib.hid (by have := HPB4.out.set_ 3 (.int .i64 x); simpa using this)
      have HC7 := Lib.hid (HCB.out.far (p := ⟨pb, 3, none⟩) (by simp; omega) (.int .i64 x))
      have HBW7 := Lib.hid (HBW4.out.setCell (p := ⟨pb, 3, none⟩) hwz (.int .i64 x))
      have HPG7 := Lib.hid (HPGX.out.keep (W' := X4.setCell ⟨pb, 3, none⟩ (.int .i64 x)) fun q hq => ((Fr.refl (· = pb) X4).setCell (p := ⟨pb, 3, none⟩) (.inl rfl) (.int .i64 x)).cell (by omega) (show ¬ q.block = pb by omega))
      have HS7 : Hid ((X4.setCell ⟨pb, 3, none⟩ (.int .i64 x)).heap.size = X4.heap.size) := Lib.hid (by simp [World.setCell])
      clear HPB4 HCB HBW4 HPGX HPR4 y2 y3 yf yf2 u0 u1 u2 u3 ul d0 HFB HZERO
      generalize X4.setCell ⟨pb, 3, none⟩ (.int .i64 x) = Y7 at *
      have hy7 : pb < Y7.heap.size := by have := HS7.out; omega
      have hbX7 : b < Y7.heap.size := by have := HS7.out; omega
      have y2 := HB7.out.cell 2
      simp only [List.getElem?_toArray, List.getElem?_cons_zero, List.getElem?_cons_succ] at y2
      have yf := HB7.out.frozen 2
      obtain ⟨j0, hj0, hj1, hj2, hj3⟩ := info_m info_int
      have HRS : Hid (Reads (Y7.alloc (.cells #[] 3)) w.heap.size 1 (some ⟨b, off + 1, none⟩) (mm - 1) (((cs.drop 1).take (mm - 1)).map (Value.int .i64))) := Lib.hid (by
        refine ⟨by rw [List.length_map, List.length_take, List.length_drop]; omega, fun hp => ⟨b, off + 1, rfl, hb, fun j u hu => ?_⟩⟩
        obtain ⟨b', off', e, _, hc'⟩ := H2.out.2 (by omega)
        injection e with e
        injection e with e1 e2
        subst e1 e2
        rw [World.cell?_alloc_lt _ _ _ (by simp; have := HBW7.out.size; omega), HBW7.out.cell hb, Nat.add_assoc]
        refine hc' _ _ ?_
        rw [List.getElem?_map] at hu ⊢
        rw [List.getElem?_take] at hu
        split at hu
        · rw [List.getElem?_drop] at hu; exact hu
        · cases hu)
      have hol : ((cs.drop 1).take (mm - 1)).length = mm - 1 := by rw [List.length_take, List.length_drop]; omega
      have HOL := Lib.hid hol
      generalize hcl2 : (cs.drop 1).take (mm - 1) = cl' at *
      by_cases hc1 : cc = 1
      · subst hc1
        have hm1 : mm = 1 := by omega
        subst hm1
        go_upto_region 9 with fail
        obtain rfl : cl' = [] := List.length_eq_zero_iff.1 hol
        have HB5a := HB7.out.set_ 2 (.slice (some ⟨Y7.heap.size, 0, none⟩) 0 0)
        have HPB5 : Hid (Blk ((Y7.setCell ⟨pb, 2, none⟩ (.slice (some ⟨Y7.heap.size, 0, none⟩) 0 0)).alloc (.cells #[] 3)) pb 28 #[.slice A0 fl.length c0, .slice A1 ml.length c1, .slice (some ⟨Y7.heap.size, 0, none⟩) ([] : List Int).length 0, .int .i64 x]) := Lib.hid (by have := HB5a.alloc (.cells #[] 3); simpa using this)
        have HC5 := Lib.hid ((HC7.out.far (p := ⟨pb, 2, none⟩) (by simp; omega) (.slice (some ⟨Y7.heap.size, 0, none⟩) 0 0)).alloc (.cells #[] 3))
        have HBW5 := Lib.hid ((HBW7.out.setCell (p := ⟨pb, 2, none⟩) hwz (.slice (some ⟨Y7.heap.size, 0, none⟩) 0 0)).alloc (by have := HBW7.out.size; simp [World.setCell]; omega) (.cells #[] 3))
        have HPG5 : Hid (PgAt ((Y7.setCell ⟨pb, 2, none⟩ (.slice (some ⟨Y7.heap.size, 0, none⟩) 0 0)).alloc (.cells #[] 3)) pb ⟨fl, ml, [], x⟩ A0 A1 (some ⟨Y7.heap.size, 0, none⟩)) := Lib.hid (by
          have h := HPG7.out.keep (W' := (Y7.setCell ⟨pb, 2, none⟩ (.slice (some ⟨Y7.heap.size, 0, none⟩) 0 0)).alloc (.cells #[] 3)) fun q hq => (((Fr.refl (· = pb) Y7).setCell (p := ⟨pb, 2, none⟩) (.inl rfl) (.slice (some ⟨Y7.heap.size, 0, none⟩) 0 0)).alloc (.cells #[] 3)).cell (by omega) (show ¬ q.block = pb by omega)
          exact ⟨h.fl, h.main, ⟨by simp [ints], fun hp => by simp at hp⟩⟩)
        have HPO : Hid (PgOk ⟨fl, ml, [], x⟩) := Lib.hid ⟨HX4.out.fl, HX4.out.fc, HX4.out.main, by simp⟩
        have hx9 : pb < ((Y7.setCell ⟨pb, 2, none⟩ (.slice (some ⟨Y7.heap.size, 0, none⟩) 0 0)).alloc (.cells #[] 3)).heap.size := HPB5.out.lt
        clear HB5a HB7 HC7 HBW7 HPG7 HRS H2 HX4 HS7 y2 yf hy7 hbX7 hbX
        generalize hW9 : (Y7.setCell ⟨pb, 2, none⟩ (.slice (some ⟨Y7.heap.size, 0, none⟩) 0 0)).alloc (.cells #[] 3) = X9 at *
        clear hW9
        have hqr : Reads X9 w.heap.size 1 P qs.length (ints qs) := by rw [HQL.out]; exact PR.out.below HBW5.out (Nat.le_refl _)
        have HP9 := Lib.hid (points4_any P pc w.heap.size qs X9 hqr HBW5.out.size (by have := HQL.out; omega))
        rw [HQL.out] at HP9
        clear hqr
        go_wp2_with fail
        refine HP9.out.mono ?_
        rintro e w6 ⟨og, cu, tq, en, rfl, ⟨o1, o2, o3, o4⟩, hg6⟩
        obtain ⟨E1, g1, rfl, _⟩ := owns_form o1
        obtain ⟨E2, g2, rfl, _⟩ := owns_form o2
        obtain ⟨E3, g3, rfl, _⟩ := owns_form o3
        obtain ⟨E4, g4, rfl, _⟩ := owns_form o4
        have HZA6 : Hid (ZnAt w6 w6.heap.size (zn4 qs (n4 qs)) E1 E2 E3 E4) := Lib.hid ⟨Reads.of_own o1, Reads.of_own o2, Reads.of_own o3, Reads.of_own o4⟩
        have HZO : Hid (ZnOk (zn4 qs (n4 qs))) := Lib.hid (zn4_ok qs _ (by unfold n4; omega))
        have HPB6 := Lib.hid (hg6.blk HPB5.out (fun x => x))
        have HC6 := Lib.hid (hg6.blk HC5.out (fun x => x))
        have HPG6 := Lib.hid (HPG5.out.keep (W' := w6) fun q hq => hg6.cell (by omega) (fun x => x))
        have HBW6 := Lib.hid (HBW5.out.trans (Grow.below hg6 HBW5.out.size))
        have hx6 := hg6.size
        clear o1 o2 o3 o4 hg6 HP9 HPB5 HC5 HPG5 HBW5 PR
        generalize zn4 qs (n4 qs) = z at *
        go_upto_region 10 with fail
        have HZA7 := Lib.hid (HZA6.out.keep (W' := w6.alloc (.cells #[.slice E1 z.org.length g1, .slice E2 z.cur.length g2, .slice E3 z.touch.length g3, .slice E4 z.ends.length g4] 33)) fun q hq => World.cell?_alloc_lt _ _ _ hq)
        have HPB7 := Lib.hid (HPB6.out.alloc (.cells #[.slice E1 z.org.length g1, .slice E2 z.cur.length g2, .slice E3 z.touch.length g3, .slice E4 z.ends.length g4] 33))
        have HC7 := Lib.hid (HC6.out.alloc (.cells #[.slice E1 z.org.length g1, .slice E2 z.cur.length g2, .slice E3 z.touch.length g3, .slice E4 z.ends.length g4] 33))
        have HPG7 := Lib.hid (HPG6.out.keep (W' := w6.alloc (.cells #[.slice E1 z.org.length g1, .slice E2 z.cur.length g2, .slice E3 z.touch.length g3, .slice E4 z.ends.length g4] 33)) fun q hq => World.cell?_alloc_lt _ _ _ (by omega))
        have HBW7 := Lib.hid (HBW6.out.alloc HBW6.out.size (.cells #[.slice E1 z.org.length g1, .slice E2 z.cur.length g2, .slice E3 z.touch.length g3, .slice E4 z.ends.length g4] 33))
        have HZB := Lib.hid (Blk.new w6 33 #[.slice E1 z.org.length g1, .slice E2 z.cur.length g2, .slice E3 z.touch.length g3, .slice E4 z.ends.length g4])
        have hx7 : w6.heap.size ≤ (w6.alloc (.cells #[.slice E1 z.org.length g1, .slice E2 z.cur.length g2, .slice E3 z.touch.length g3, .slice E4 z.ends.length g4] 33)).heap.size := by simp
        clear HPB6 HC6 HPG6 HBW6 HZA6
        generalize w6.alloc (.cells #[.slice E1 z.org.length g1, .slice E2 z.cur.length g2, .slice E3 z.touch.length g3, .slice E4 z.ends.length g4] 33) = X7 at *
        generalize w6.heap.size = zb at *
        have y0 := HPB7.out.cell 0
        have y1 := HPB7.out.cell 1
        have y2 := HPB7.out.cell 2
        have y3 := HPB7.out.cell 3
        have z0 := HZB.out.cell 0
        have z1 := HZB.out.cell 1
        have z2 := HZB.out.cell 2
        have z3 := HZB.out.cell 3
        have v0 := HC7.out.cell 0
        have v1 := HC7.out.cell 1
        have v2 := HC7.out.cell 2
        have v3 := HC7.out.cell 3
        simp only [List.getElem?_toArray, List.getElem?_cons_zero, List.getElem?_cons_succ] at y0 y1 y2 y3 z0 z1 z2 z3 v0 v1 v2 v3
        have vl := HC7.out.lt
        have zl := HZB.out.lt
        have pl := HPB7.out.lt
        obtain ⟨T, hT, t1, t2, t3, t4, t5, t6, t7⟩ := HOK.out z _ HPE.out [] x
        simp only at hT t2 t3 t4 t5 t6 t7
        have HT := Lib.hid hT
        clear hT
        go_wp2_with fail
        refine (run_any X7 ⟨fl, ml, [], x⟩ z HPO.out HZO.out A0 A1 (some ⟨Y7.heap.size, 0, none⟩) E1 E3 E4 E2 c0 c1 0 g1 g3 g4 g2 (HPG7.out.more7 (by omega)) (HZA7.out.more7 (by omega)) q3 (by omega)).mono ?_
        rintro e w8 ⟨og, cu, tq, en, cv, st, sk, rfl, hra, hbl⟩
        rw [← HT.out] at hra ⊢
        obtain ⟨F1, f1, rfl, _⟩ := owns_form hra.og
        obtain ⟨F2, f2, rfl, _⟩ := owns_form hra.cu
        obtain ⟨F3, f3, rfl, _⟩ := owns_form hra.to
        obtain ⟨F4, f4, rfl, _⟩ := owns_form hra.en
        obtain ⟨F5, f5, rfl, _⟩ := owns_form hra.cv
        obtain ⟨F6, f6, rfl, _⟩ := owns_form hra.st
        obtain ⟨F7, f7, rfl, _⟩ := owns_form hra.sk
        rw [t1]
        have hn4 : (T.stack.length : Int) = q1 := t4
        have HC8 := Lib.hid (HC7.out.below hbl HC7.out.lt)
        have HBW8 := Lib.hid (HBW7.out.trans (hbl.mono HBW7.out.size))
        clear hra hbl HC7 HBW7 HPB7 HPG7 HZA7 HZB y0 y1 y2 y3 z0 z1 z2 z3 v0 v1 v2 v3 vl zl pl HT HPO HZO
        go_upto_region 11 with fail
        have HRB := Lib.hid (Blk.new w8 43 #[.slice F1 T.org.length f1, .slice F2 T.cur.length f2, .slice F3 T.touch.length f3, .slice F4 T.ends.length f4, .slice F5 T.cvt.length f5, .slice F6 32 f6, .slice F7 T.stack.length f7, .int .i64 T.steps, .int .i64 T.peak, .int .i64 0])
        have HC9 := Lib.hid (HC8.out.alloc (.cells #[.slice F1 T.org.length f1, .slice F2 T.cur.length f2, .slice F3 T.touch.length f3, .slice F4 T.ends.length f4, .slice F5 T.cvt.length f5, .slice F6 32 f6, .slice F7 T.stack.length f7, .int .i64 T.steps, .int .i64 T.peak, .int .i64 0] 43))
        have HBW9 := Lib.hid (HBW8.out.alloc HBW8.out.size (.cells #[.slice F1 T.org.length f1, .slice F2 T.cur.length f2, .slice F3 T.touch.length f3, .slice F4 T.ends.length f4, .slice F5 T.cvt.length f5, .slice F6 32 f6, .slice F7 T.stack.length f7, .int .i64 T.steps, .int .i64 T.peak, .int .i64 0] 43))
        clear HC8 HBW8
        generalize w8.alloc (.cells #[.slice F1 T.org.length f1, .slice F2 T.cur.length f2, .slice F3 T.touch.length f3, .slice F4 T.ends.length f4, .slice F5 T.cvt.length f5, .slice F6 32 f6, .slice F7 T.stack.length f7, .int .i64 T.steps, .int .i64 T.peak, .int .i64 0] 43) = X9 at *
        generalize w8.heap.size = rb at *
        have v1 := HC9.out.cell 1
        have v2 := HC9.out.cell 2
        have v3 := HC9.out.cell 3
        have r6 := HRB.out.cell 6
        have r7 := HRB.out.cell 7
        have r8 := HRB.out.cell 8
        have r9 := HRB.out.cell 9
        simp only [List.getElem?_toArray, List.getElem?_cons_zero, List.getElem?_cons_succ] at v1 v2 v3 r6 r7 r8 r9
        have vl := HC9.out.lt
        have rl := HRB.out.lt
        go_wp2_with fail
        go_ret
        exact ⟨rfl, HBW9.out⟩
      · go_upto_region 9 with (at_builtin; refine wpList_append_any _ rfl (.tmp 40) (.tmp 45) _ rfl Y7.heap.size 3 j0 _ 1 8 Tryz.underlying22 hj0 hj1 hj2 hj3 rfl (show 0 < 1 by decide) (.slice (some ⟨Y7.heap.size, 0, none⟩) 0 0) 0 [] rfl (owns_empty (Blk.new _ _ _) (Nat.le_refl _)) _ (some ⟨b, off + 1, none⟩) (mm - 1) (cc - 1) (cl'.map (Value.int .i64)) rfl HRS.out (ints_one _) (by unfold maxLen; omega) (by omega) (by simp) ?_; intro v' w8 ho8 hg8 h8; have hg := grow_of_grown ((Fr.refl _ Y7).alloc (.cells #[] 3)) hg8 (fun g e => by simp only [Value.ownBlock, Option.some.injEq] at e; omega); have HB8 := Lib.hid (hg.blk HB7.out (fun x => x)); have HC8 := Lib.hid (hg.blk HC7.out (fun x => x)); have HBW8 := Lib.hid (HBW7.out.trans (Grow.below hg HBW7.out.size)); have HPG8 := Lib.hid (HPG7.out.keep (W' := w8) fun q hq => hg.cell (by omega) (fun x => x)); have b0 := HB8.out.cell 2; have b1 := HB8.out.frozen 2; have b2 := HB8.out.lt; obtain ⟨Ae, ae, e8, _⟩ := owns_form ho8; subst e8; simp only [List.getElem?_toArray, List.getElem?_cons_zero, List.getElem?_cons_succ] at b0; have HO8 := Lib.hid ho8; clear ho8 hg8 h8 hg)
        have hrow := HO8.out
        rw [Nat.zero_add, List.nil_append, ← hol] at hrow
        have HPB5 : Hid (Blk (w8.setCell ⟨pb, 2, none⟩ (.slice Ae (mm - 1) ae)) pb 28 #[.slice A0 fl.length c0, .slice A1 ml.length c1, .slice Ae cl'.length ae, .int .i64 x]) := Lib.hid (by have := HB8.out.set_ 2 (.slice Ae (mm - 1) ae); rw [hol]; simpa using this)
        have HC5 := Lib.hid (HC8.out.far (p := ⟨pb, 2, none⟩) (by simp; omega) (.slice Ae (mm - 1) ae))
        have HBW5 := Lib.hid (HBW8.out.setCell (p := ⟨pb, 2, none⟩) hwz (.slice Ae (mm - 1) ae))
        have hrow2 := owns_box hrow HB8.out (by decide) 2 (.slice Ae (mm - 1) ae)
        have HPG5 : Hid (PgAt (w8.setCell ⟨pb, 2, none⟩ (.slice Ae (mm - 1) ae)) (w8.setCell ⟨pb, 2, none⟩ (.slice Ae (mm - 1) ae)).heap.size ⟨fl, ml, cl', x⟩ A0 A1 Ae) := Lib.hid (by
          have h := (HPG8.out.keep (W' := w8.setCell ⟨pb, 2, none⟩ (.slice Ae (mm - 1) ae)) fun q hq => ((Fr.refl (· = pb) w8).setCell (p := ⟨pb, 2, none⟩) (.inl rfl) (.slice Ae (mm - 1) ae)).cell (by omega) (show ¬ q.block = pb by omega)).more7 (B' := (w8.setCell ⟨pb, 2, none⟩ (.slice Ae (mm - 1) ae)).heap.size) (by simp [World.setCell]; omega)
          exact ⟨h.fl, h.main, Reads.of_own hrow2⟩)
        have HPO : Hid (PgOk ⟨fl, ml, cl', x⟩) := Lib.hid ⟨HX4.out.fl, HX4.out.fc, HX4.out.main, by simp only; omega⟩
        have _hx4 : (w8.setCell ⟨pb, 2, none⟩ (.slice Ae (mm - 1) ae)).heap.size ≤ (w8.setCell ⟨pb, 2, none⟩ (.slice Ae (mm - 1) ae)).heap.size := Nat.le_refl _
        clear hrow hrow2 HB8 HC8 HBW8 HPG8 HO8 b0 b1 b2 HB7 HC7 HBW7 HPG7 HRS H2 HX4 HS7 y2 yf hy7 hbX7 hbX
        generalize hW9 : w8.setCell ⟨pb, 2, none⟩ (.slice Ae (mm - 1) ae) = X9 at *
        clear hW9 hol hcl2
        have hqr : Reads X9 w.heap.size 1 P qs.length (ints qs) := by rw [HQL.out]; exact PR.out.below HBW5.out (Nat.le_refl _)
        have HP9 := Lib.hid (points4_any P pc w.heap.size qs X9 hqr HBW5.out.size (by have := HQL.out; omega))
        rw [HQL.out] at HP9
        clear hqr
        go_wp2_with fail
        refine HP9.out.mono ?_
        rintro e w6 ⟨og, cu, tq, en, rfl, ⟨o1, o2, o3, o4⟩, hg6⟩
        obtain ⟨E1, g1, rfl, _⟩ := owns_form o1
        obtain ⟨E2, g2, rfl, _⟩ := owns_form o2
        obtain ⟨E3, g3, rfl, _⟩ := owns_form o3
        obtain ⟨E4, g4, rfl, _⟩ := owns_form o4
        have HZA6 : Hid (ZnAt w6 w6.heap.size (zn4 qs (n4 qs)) E1 E2 E3 E4) := Lib.hid ⟨Reads.of_own o1, Reads.of_own o2, Reads.of_own o3, Reads.of_own o4⟩
        have HZO : Hid (ZnOk (zn4 qs (n4 qs))) := Lib.hid (zn4_ok qs _ (by unfold n4; omega))
        have HPB6 := Lib.hid (hg6.blk HPB5.out (fun x => x))
        have HC6 := Lib.hid (hg6.blk HC5.out (fun x => x))
        have HPG6 := Lib.hid (HPG5.out.keep (W' := w6) fun q hq => hg6.cell (by omega) (fun x => x))
        have HBW6 := Lib.hid (HBW5.out.trans (Grow.below hg6 HBW5.out.size))
        have hx6 := hg6.size
        clear o1 o2 o3 o4 hg6 HP9 HPB5 HC5 HPG5 HBW5 PR
        generalize zn4 qs (n4 qs) = z at *
        go_upto_region 10 with fail
        have HZA7 := Lib.hid (HZA6.out.keep (W' := w6.alloc (.cells #[.slice E1 z.org.length g1, .slice E2 z.cur.length g2, .slice E3 z.touch.length g3, .slice E4 z.ends.length g4] 33)) fun q hq => World.cell?_alloc_lt _ _ _ hq)
        have HPB7 := Lib.hid (HPB6.out.alloc (.cells #[.slice E1 z.org.length g1, .slice E2 z.cur.length g2, .slice E3 z.touch.length g3, .slice E4 z.ends.length g4] 33))
        have HC7 := Lib.hid (HC6.out.alloc (.cells #[.slice E1 z.org.length g1, .slice E2 z.cur.length g2, .slice E3 z.touch.length g3, .slice E4 z.ends.length g4] 33))
        have HPG7 := Lib.hid (HPG6.out.keep (W' := w6.alloc (.cells #[.slice E1 z.org.length g1, .slice E2 z.cur.length g2, .slice E3 z.touch.length g3, .slice E4 z.ends.length g4] 33)) fun q hq => World.cell?_alloc_lt _ _ _ (by omega))
        have HBW7 := Lib.hid (HBW6.out.alloc HBW6.out.size (.cells #[.slice E1 z.org.length g1, .slice E2 z.cur.length g2, .slice E3 z.touch.length g3, .slice E4 z.ends.length g4] 33))
        have HZB := Lib.hid (Blk.new w6 33 #[.slice E1 z.org.length g1, .slice E2 z.cur.length g2, .slice E3 z.touch.length g3, .slice E4 z.ends.length g4])
        have hx7 : w6.heap.size ≤ (w6.alloc (.cells #[.slice E1 z.org.length g1, .slice E2 z.cur.length g2, .slice E3 z.touch.length g3, .slice E4 z.ends.length g4] 33)).heap.size := by simp
        clear HPB6 HC6 HPG6 HBW6 HZA6
        generalize w6.alloc (.cells #[.slice E1 z.org.length g1, .slice E2 z.cur.length g2, .slice E3 z.touch.length g3, .slice E4 z.ends.length g4] 33) = X7 at *
        generalize w6.heap.size = zb at *
        have y0 := HPB7.out.cell 0
        have y1 := HPB7.out.cell 1
        have y2 := HPB7.out.cell 2
        have y3 := HPB7.out.cell 3
        have z0 := HZB.out.cell 0
        have z1 := HZB.out.cell 1
        have z2 := HZB.out.cell 2
        have z3 := HZB.out.cell 3
        have v0 := HC7.out.cell 0
        have v1 := HC7.out.cell 1
        have v2 := HC7.out.cell 2
        have v3 := HC7.out.cell 3
        simp only [List.getElem?_toArray, List.getElem?_cons_zero, List.getElem?_cons_succ] at y0 y1 y2 y3 z0 z1 z2 z3 v0 v1 v2 v3
        have vl := HC7.out.lt
        have zl := HZB.out.lt
        have pl := HPB7.out.lt
        obtain ⟨T, hT, t1, t2, t3, t4, t5, t6, t7⟩ := HOK.out z _ HPE.out cl' x
        simp only at hT t2 t3 t4 t5 t6 t7
        have HT := Lib.hid hT
        clear hT
        go_wp2_with fail
        refine (run_any X7 ⟨fl, ml, cl', x⟩ z HPO.out HZO.out A0 A1 Ae E1 E3 E4 E2 c0 c1 ae g1 g3 g4 g2 (HPG7.out.more7 (by omega)) (HZA7.out.more7 (by omega)) q3 (by omega)).mono ?_
        rintro e w8 ⟨og, cu, tq, en, cv, st, sk, rfl, hra, hbl⟩
        rw [← HT.out] at hra ⊢
        obtain ⟨F1, f1, rfl, _⟩ := owns_form hra.og
        obtain ⟨F2, f2, rfl, _⟩ := owns_form hra.cu
        obtain ⟨F3, f3, rfl, _⟩ := owns_form hra.to
        obtain ⟨F4, f4, rfl, _⟩ := owns_form hra.en
        obtain ⟨F5, f5, rfl, _⟩ := owns_form hra.cv
        obtain ⟨F6, f6, rfl, _⟩ := owns_form hra.st
        obtain ⟨F7, f7, rfl, _⟩ := owns_form hra.sk
        rw [t1]
        have hn4 : (T.stack.length : Int) = q1 := t4
        have HC8 := Lib.hid (HC7.out.below hbl HC7.out.lt)
        have HBW8 := Lib.hid (HBW7.out.trans (hbl.mono HBW7.out.size))
        clear hra hbl HC7 HBW7 HPB7 HPG7 HZA7 HZB y0 y1 y2 y3 z0 z1 z2 z3 v0 v1 v2 v3 vl zl pl HT HPO HZO
        go_upto_region 11 with fail
        have HRB := Lib.hid (Blk.new w8 43 #[.slice F1 T.org.length f1, .slice F2 T.cur.length f2, .slice F3 T.touch.length f3, .slice F4 T.ends.length f4, .slice F5 T.cvt.length f5, .slice F6 32 f6, .slice F7 T.stack.length f7, .int .i64 T.steps, .int .i64 T.peak, .int .i64 0])
        have HC9 := Lib.hid (HC8.out.alloc (.cells #[.slice F1 T.org.length f1, .slice F2 T.cur.length f2, .slice F3 T.touch.length f3, .slice F4 T.ends.length f4, .slice F5 T.cvt.length f5, .slice F6 32 f6, .slice F7 T.stack.length f7, .int .i64 T.steps, .int .i64 T.peak, .int .i64 0] 43))
        have HBW9 := Lib.hid (HBW8.out.alloc HBW8.out.size (.cells #[.slice F1 T.org.length f1, .slice F2 T.cur.length f2, .slice F3 T.touch.length f3, .slice F4 T.ends.length f4, .slice F5 T.cvt.length f5, .slice F6 32 f6, .slice F7 T.stack.length f7, .int .i64 T.steps, .int .i64 T.peak, .int .i64 0] 43))
        clear HC8 HBW8
        generalize w8.alloc (.cells #[.slice F1 T.org.length f1, .slice F2 T.cur.length f2, .slice F3 T.touch.length f3, .slice F4 T.ends.length f4, .slice F5 T.cvt.length f5, .slice F6 32 f6, .slice F7 T.stack.length f7, .int .i64 T.steps, .int .i64 T.peak, .int .i64 0] 43) = X9 at *
        generalize w8.heap.size = rb at *
        have v1 := HC9.out.cell 1
        have v2 := HC9.out.cell 2
        have v3 := HC9.out.cell 3
        have r6 := HRB.out.cell 6
        have r7 := HRB.out.cell 7
        have r8 := HRB.out.cell 8
        have r9 := HRB.out.cell 9
        simp only [List.getElem?_toArray, List.getElem?_cons_zero, List.getElem?_cons_succ] at v1 v2 v3 r6 r7 r8 r9
        have vl := HC9.out.lt
        have rl := HRB.out.lt
        go_wp2_with fail
        go_ret
        exact ⟨rfl, HBW9.out⟩
    · go_upto_region 9 with fail
      have HPB5 := HPB4
      have HC5 := HCB
      have HBW5 := HBW4
      have HPG5 : Hid (PgAt X4 pb ⟨fl, ml, cl, size⟩ A0 A1 A3) := Lib.hid (pg_of HPR4.out)
      have HPO : Hid (PgOk ⟨fl, ml, cl, size⟩) := Lib.hid (pgOk_of hf HFB.out hm' HPR4.out.k)
      clear HPB4 HCB HBW4 HPR4 u0 u1 u2 u3 HFB HZERO
      have hqr : Reads X4 w.heap.size 1 P qs.length (ints qs) := by rw [HQL.out]; exact PR.out.below HBW5.out (Nat.le_refl _)
      have HP9 := Lib.hid (points4_any P pc w.heap.size qs X4 hqr HBW5.out.size (by have := HQL.out; omega))
      rw [HQL.out] at HP9
      clear hqr
      go_wp2_with fail
      refine HP9.out.mono ?_
      rintro e w6 ⟨og, cu, tq, en, rfl, ⟨o1, o2, o3, o4⟩, hg6⟩
      obtain ⟨E1, g1, rfl, _⟩ := owns_form o1
      obtain ⟨E2, g2, rfl, _⟩ := owns_form o2
      obtain ⟨E3, g3, rfl, _⟩ := owns_form o3
      obtain ⟨E4, g4, rfl, _⟩ := owns_form o4
      have HZA6 : Hid (ZnAt w6 w6.heap.size (zn4 qs (n4 qs)) E1 E2 E3 E4) := Lib.hid ⟨Reads.of_own o1, Reads.of_own o2, Reads.of_own o3, Reads.of_own o4⟩
      have HZO : Hid (ZnOk (zn4 qs (n4 qs))) := Lib.hid (zn4_ok qs _ (by unfold n4; omega))
      have HPB6 := Lib.hid (hg6.blk HPB5.out (fun x => x))
      have HC6 := Lib.hid (hg6.blk HC5.out (fun x => x))
      have HPG6 := Lib.hid (HPG5.out.keep (W' := w6) fun q hq => hg6.cell (by omega) (fun x => x))
      have HBW6 := Lib.hid (HBW5.out.trans (Grow.below hg6 HBW5.out.size))
      have hx6 := hg6.size
      clear o1 o2 o3 o4 hg6 HP9 HPB5 HC5 HPG5 HBW5 PR
      generalize zn4 qs (n4 qs) = z at *
      go_upto_region 10 with fail
      have HZA7 := Lib.hid (HZA6.out.keep (W' := w6.alloc (.cells #[.slice E1 z.org.length g1, .slice E2 z.cur.length g2, .slice E3 z.touch.length g3, .slice E4 z.ends.length g4] 33)) fun q hq => World.cell?_alloc_lt _ _ _ hq)
      have HPB7 := Lib.hid (HPB6.out.alloc (.cells #[.slice E1 z.org.length g1, .slice E2 z.cur.length g2, .slice E3 z.touch.length g3, .slice E4 z.ends.length g4] 33))
      have HC7 := Lib.hid (HC6.out.alloc (.cells #[.slice E1 z.org.length g1, .slice E2 z.cur.length g2, .slice E3 z.touch.length g3, .slice E4 z.ends.length g4] 33))
      have HPG7 := Lib.hid (HPG6.out.keep (W' := w6.alloc (.cells #[.slice E1 z.org.length g1, .slice E2 z.cur.length g2, .slice E3 z.touch.length g3, .slice E4 z.ends.length g4] 33)) fun q hq => World.cell?_alloc_lt _ _ _ (by omega))
      have HBW7 := Lib.hid (HBW6.out.alloc HBW6.out.size (.cells #[.slice E1 z.org.length g1, .slice E2 z.cur.length g2, .slice E3 z.touch.length g3, .slice E4 z.ends.length g4] 33))
      have HZB := Lib.hid (Blk.new w6 33 #[.slice E1 z.org.length g1, .slice E2 z.cur.length g2, .slice E3 z.touch.length g3, .slice E4 z.ends.length g4])
      have hx7 : w6.heap.size ≤ (w6.alloc (.cells #[.slice E1 z.org.length g1, .slice E2 z.cur.length g2, .slice E3 z.touch.length g3, .slice E4 z.ends.length g4] 33)).heap.size := by simp
      clear HPB6 HC6 HPG6 HBW6 HZA6
      generalize w6.alloc (.cells #[.slice E1 z.org.length g1, .slice E2 z.cur.length g2, .slice E3 z.touch.length g3, .slice E4 z.ends.length g4] 33) = X7 at *
      generalize w6.heap.size = zb at *
      have y0 := HPB7.out.cell 0
      have y1 := HPB7.out.cell 1
      have y2 := HPB7.out.cell 2
      have y3 := HPB7.out.cell 3
      have z0 := HZB.out.cell 0
      have z1 := HZB.out.cell 1
      have z2 := HZB.out.cell 2
      have z3 := HZB.out.cell 3
      have v0 := HC7.out.cell 0
      have v1 := HC7.out.cell 1
      have v2 := HC7.out.cell 2
      have v3 := HC7.out.cell 3
      simp only [List.getElem?_toArray, List.getElem?_cons_zero, List.getElem?_cons_succ] at y0 y1 y2 y3 z0 z1 z2 z3 v0 v1 v2 v3
      have vl := HC7.out.lt
      have zl := HZB.out.lt
      have pl := HPB7.out.lt
      obtain ⟨T, hT, t1, t2, t3, t4, t5, t6, t7⟩ := HOK.out z _ HPE.out cl size
      simp only at hT t2 t3 t4 t5 t6 t7
      have HT := Lib.hid hT
      clear hT
      go_wp2_with fail
      refine (run_any X7 ⟨fl, ml, cl, size⟩ z HPO.out HZO.out A0 A1 A3 E1 E3 E4 E2 c0 c1 c3 g1 g3 g4 g2 (HPG7.out.more7 (by omega)) (HZA7.out.more7 (by omega)) q3 (by omega)).mono ?_
      rintro e w8 ⟨og, cu, tq, en, cv, st, sk, rfl, hra, hbl⟩
      rw [← HT.out] at hra ⊢
      obtain ⟨F1, f1, rfl, _⟩ := owns_form hra.og
      obtain ⟨F2, f2, rfl, _⟩ := owns_form hra.cu
      obtain ⟨F3, f3, rfl, _⟩ := owns_form hra.to
      obtain ⟨F4, f4, rfl, _⟩ := owns_form hra.en
      obtain ⟨F5, f5, rfl, _⟩ := owns_form hra.cv
      obtain ⟨F6, f6, rfl, _⟩ := owns_form hra.st
      obtain ⟨F7, f7, rfl, _⟩ := owns_form hra.sk
      rw [t1]
      have hn4 : (T.stack.length : Int) = q1 := t4
      have HC8 := Lib.hid (HC7.out.below hbl HC7.out.lt)
      have HBW8 := Lib.hid (HBW7.out.trans (hbl.mono HBW7.out.size))
      clear hra hbl HC7 HBW7 HPB7 HPG7 HZA7 HZB y0 y1 y2 y3 z0 z1 z2 z3 v0 v1 v2 v3 vl zl pl HT HPO HZO
      go_upto_region 11 with fail
      have HRB := Lib.hid (Blk.new w8 43 #[.slice F1 T.org.length f1, .slice F2 T.cur.length f2, .slice F3 T.touch.length f3, .slice F4 T.ends.length f4, .slice F5 T.cvt.length f5, .slice F6 32 f6, .slice F7 T.stack.length f7, .int .i64 T.steps, .int .i64 T.peak, .int .i64 0])
      have HC9 := Lib.hid (HC8.out.alloc (.cells #[.slice F1 T.org.length f1, .slice F2 T.cur.length f2, .slice F3 T.touch.length f3, .slice F4 T.ends.length f4, .slice F5 T.cvt.length f5, .slice F6 32 f6, .slice F7 T.stack.length f7, .int .i64 T.steps, .int .i64 T.peak, .int .i64 0] 43))
      have HBW9 := Lib.hid (HBW8.out.alloc HBW8.out.size (.cells #[.slice F1 T.org.length f1, .slice F2 T.cur.length f2, .slice F3 T.touch.length f3, .slice F4 T.ends.length f4, .slice F5 T.cvt.length f5, .slice F6 32 f6, .slice F7 T.stack.length f7, .int .i64 T.steps, .int .i64 T.peak, .int .i64 0] 43))
      clear HC8 HBW8
      generalize w8.alloc (.cells #[.slice F1 T.org.length f1, .slice F2 T.cur.length f2, .slice F3 T.touch.length f3, .slice F4 T.ends.length f4, .slice F5 T.cvt.length f5, .slice F6 32 f6, .slice F7 T.stack.length f7, .int .i64 T.steps, .int .i64 T.peak, .int .i64 0] 43) = X9 at *
      generalize w8.heap.size = rb at *
      have v1 := HC9.out.cell 1
      have v2 := HC9.out.cell 2
      have v3 := HC9.out.cell 3
      have r6 := HRB.out.cell 6
      have r7 := HRB.out.cell 7
      have r8 := HRB.out.cell 8
      have r9 := HRB.out.cell 9
      simp only [List.getElem?_toArray, List.getElem?_cons_zero, List.getElem?_cons_succ] at v1 v2 v3 r6 r7 r8 r9
      have vl := HC9.out.lt
      have rl := HRB.out.lt
      go_wp2_with fail
      go_ret
      exact ⟨rfl, HBW9.out⟩
  · have hzz := HZERO.out (by rw [HPE.out]; exact hz)
    rw [HPE.out] at hzz
    simp only [Bd.Cost.mk.injEq] at hzz
    obtain ⟨rfl, rfl, rfl, rfl⟩ := hzz
    have hzb : (pe != 0) = true := by simpa using hz
    go_wp2_with fail
    go_ret
    exact ⟨rfl, HBW4.out⟩
end Go.Proofs.YthdmdgmchkhngaaGreat

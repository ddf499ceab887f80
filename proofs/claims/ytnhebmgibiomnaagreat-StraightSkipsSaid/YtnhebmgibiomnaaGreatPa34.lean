/- Parts of the proof, joined: StX StK. -/
import Derived.Test.YtnhebmgibiomnaaGreatPa31
import Derived.Test.YtnhebmgibiomnaaGreatPa33
set_option linter.unusedVariables false
set_option linter.unusedSimpArgs false
namespace Go.Proofs.YtnhebmgibiomnaaGreat
open Go.RowKit Mc
theorem znOf_ok {z : Zn} (h : ZnOk z) : ZnOk (znOf z) := ⟨by simp [znOf]; exact h.cur, by simp [znOf]; exact h.cur, by simp [znOf]; exact h.cur, h.ends⟩
theorem ZnOwn.at_ {B : Nat} {W : World} {z : Zn} {A1 A2 A3 A4 : Option Addr} {c1 c2 c3 c4 : Nat} (h : ZnOwn B W z (.slice A1 z.org.length c1) (.slice A2 z.cur.length c2) (.slice A3 z.touch.length c3) (.slice A4 z.ends.length c4)) : ZnAt W W.heap.size z A1 A2 A3 A4 :=
  ⟨Reads.of_own h.1, Reads.of_own h.2.1, Reads.of_own h.2.2.1, Reads.of_own h.2.2.2⟩
def AgS (tb ab bb zb : Nat) (ct ca cb cz : Array Value) (w' : World) : Prop := Blk w' tb 30 ct ∧ Blk w' ab 39 ca ∧ Blk w' bb 39 cb ∧ Blk w' zb 30 cz
theorem AgS.go {tb ab bb zb : Nat} {ct ca cb cz : Array Value} {X Y : World} (h : AgS tb ab bb zb ct ca cb cz X) (hb : Below X.heap.size X Y) : AgS tb ab bb zb ct ca cb cz Y := ⟨Blk.go h.1 hb, Blk.go h.2.1 hb, Blk.go h.2.2.1 hb, Blk.go h.2.2.2 hb⟩
set_option maxRecDepth 100000 in
set_option maxHeartbeats 8000000 in
theorem straightAgain_walk (code : List Sr.Reg) (cvt : List Int) (size : Int) (z : Zn) (A fA mA cA oA uA tA eA : Option Addr) (c fn fc mn mc cc oc uc tc ec : Nat) (w : World) (hcap : code.length ≤ c) (hmax : c ≤ maxLen) (h1 : Reads w w.heap.size 5 A code.length (regCells code)) (h2 : Reads w w.heap.size 1 cA cvt.length (ints cvt)) (h3 : ZnAt w w.heap.size z oA uA tA eA) :
    Calls Tryz.prog 8 #[.slice A code.length c, (.agg #[.slice fA fn fc, .slice mA mn mc, .slice cA cvt.length cc, .int .i64 size]), (.agg #[.slice oA z.org.length oc, .slice uA z.cur.length uc, .slice tA z.touch.length tc, .slice eA z.ends.length ec])] w fun e w' => e = .returned (.bool true) ∧ Below w.heap.size w w' := by
  have H := Lib.hid (StW.start (fA := fA) (mA := mA) (c := c) (fn := fn) (fc := fc) (mn := mn) (mc := mc) (cc := cc) (oc := oc) (uc := uc) (tc := tc) (ec := ec) (size := size) w h1 h2 h3)
  clear h1 h2 h3 hmax hcap
  go_enter Tryz.func8, Tryz.ntmps8
  go_upto_region 1 with fail
  generalize (w.alloc (.cells #[.slice fA fn fc, .slice mA mn mc, .slice cA cvt.length cc, .int .i64 size] 26)).alloc (.cells #[.slice oA z.org.length oc, .slice uA z.cur.length uc, .slice tA z.touch.length tc, .slice eA z.ends.length ec] 30) = X at *
  have p0 := H.out.pz.cell 0
  have p1 := H.out.pz.cell 1
  have p2 := H.out.pz.cell 2
  have p3 := H.out.pz.cell 3
  have z0 := H.out.zz.cell 0
  have z1 := H.out.zz.cell 1
  have z2 := H.out.zz.cell 2
  have z3 := H.out.zz.cell 3
  simp only [List.getElem?_toArray, List.getElem?_cons_zero, List.getElem?_cons_succ] at p0 p1 p2 p3 z0 z1 z2 z3
  have pl := H.out.pz.lt
  have zl := H.out.zz.lt
  go_wp2_with fail
  refine (small_any A oA uA tA eA code.length z.org.length z.cur.length z.touch.length z.ends.length c oc uc tc ec X).mono ?_
  rintro e w1 ⟨rfl, hg⟩
  have H1 := Lib.hid (H.out.go (Grow.below hg (Nat.le_refl _)))
  clear p0 p1 p2 p3 z0 z1 z2 z3 pl zl
  clear H hg
  have p0 := H1.out.pz.cell 0
  have p1 := H1.out.pz.cell 1
  have p2 := H1.out.pz.cell 2
  have p3 := H1.out.pz.cell 3
  have z0 := H1.out.zz.cell 0
  have z1 := H1.out.zz.cell 1
  have z2 := H1.out.zz.cell 2
  have z3 := H1.out.zz.cell 3
  simp only [List.getElem?_toArray, List.getElem?_cons_zero, List.getElem?_cons_succ] at p0 p1 p2 p3 z0 z1 z2 z3
  have pl := H1.out.pz.lt
  have zl := H1.out.zz.lt
  cases hs : smallV code.length z.org.length z.cur.length z.touch.length z.ends.length
  · have hbw := H1.out.b
    go_wp2_with fail
    go_ret
    exact ⟨rfl, hbw⟩
  · unfold smallV at hs
    simp only [Bool.and_eq_true, decide_eq_true_eq] at hs
    obtain ⟨⟨⟨⟨s1, s2⟩, s3⟩, s4⟩, s5⟩ := hs
    by_cases hcv : (100 : Int) < cvt.length
    · have hbw := H1.out.b
      go_wp2_with fail
      go_ret
      exact ⟨rfl, hbw⟩
    · have HZ := Lib.hid (ZnOk.mk (z := z) (by omega) (by omega) (by omega) (by omega))
      have HCV := Lib.hid (show cvt.length ≤ 1000000 by omega)
      have HCL := Lib.hid (show code.length ≤ 1000000 by omega)
      go_wp2_with fail
      refine (rzone_any w1 w1.heap.size z HZ.out oA uA tA eA oc uc tc ec H1.out.zn (Nat.le_refl _)).mono ?_
      clear s1 s2 s3 s4 s5
      rintro e w2 ⟨og, cu, tu, en, rfl, ho, hg⟩
      obtain ⟨O1, o1, rfl, _⟩ := owns_form ho.1
      obtain ⟨O2, o2, rfl, _⟩ := owns_form ho.2.1
      obtain ⟨O3, o3, rfl, _⟩ := owns_form ho.2.2.1
      obtain ⟨O4, o4, rfl, _⟩ := owns_form ho.2.2.2
      have hb := (Grow.below hg (Nat.le_refl _)).alloc hg.size (.cells #[.slice O1 (znOf z).org.length o1, .slice O2 (znOf z).cur.length o2, .slice O3 (znOf z).touch.length o3, .slice O4 (znOf z).ends.length o4] 30)
      have H2 := Lib.hid (H1.out.go hb)
      have HW2 := Lib.hid (ZnAt.go ho.at_ (below_new w2 (.cells #[.slice O1 (znOf z).org.length o1, .slice O2 (znOf z).cur.length o2, .slice O3 (znOf z).touch.length o3, .slice O4 (znOf z).ends.length o4] 30)))
      have HT2 := Lib.hid (Blk.new w2 30 #[.slice O1 (znOf z).org.length o1, .slice O2 (znOf z).cur.length o2, .slice O3 (znOf z).touch.length o3, .slice O4 (znOf z).ends.length o4])
      clear p0 p1 p2 p3 z0 z1 z2 z3 pl zl
      clear H1 hb hg ho
      go_upto_region 4 with fail
      generalize w2.alloc (.cells #[.slice O1 (znOf z).org.length o1, .slice O2 (znOf z).cur.length o2, .slice O3 (znOf z).touch.length o3, .slice O4 (znOf z).ends.length o4] 30) = X2 at *
      generalize w2.heap.size = tb at *
      have p0 := H2.out.pz.cell 0
      have p1 := H2.out.pz.cell 1
      have p2 := H2.out.pz.cell 2
      have p3 := H2.out.pz.cell 3
      have z0 := H2.out.zz.cell 0
      have z1 := H2.out.zz.cell 1
      have z2 := H2.out.zz.cell 2
      have z3 := H2.out.zz.cell 3
      simp only [List.getElem?_toArray, List.getElem?_cons_zero, List.getElem?_cons_succ] at p0 p1 p2 p3 z0 z1 z2 z3
      have pl := H2.out.pz.lt
      have zl := H2.out.zz.lt
      go_wp2_with fail
      refine (out_run X2 code cvt size z A fA mA cA oA uA tA eA c fn fc mn mc cc oc uc tc ec H2.out.co H2.out.cv H2.out.zn HCV.out HZ.out HCL.out).mono ?_
      obtain ⟨T, hT⟩ : ∃ T, T = Sr.out code cvt size z := ⟨_, rfl⟩
      have HOK := Lib.hid (Sr.out_ok code cvt size z HZ.out HCV.out)
      have HT := Lib.hid hT
      rw [← hT] at HOK ⊢
      clear hT
      rintro e w3 ⟨A1, A2, A3, A4, A5, A6, A7, c1, c2, c3, c4, c5, c6, c7, rfl, ho, hb3⟩
      have hb := hb3.alloc hb3.size (.cells #[.slice A1 T.zn.org.length c1, .slice A2 T.zn.cur.length c2, .slice A3 T.zn.touch.length c3, .slice A4 T.zn.ends.length c4, .slice A5 T.cv.length c5, .slice A6 T.st.length c6, .slice A7 T.sk.length c7, .int .i64 T.steps, .int .i64 0, .int .i64 T.err] 39)
      have H3 := Lib.hid (H2.out.go hb)
      have HW3 := Lib.hid (ZnAt.go HW2.out hb)
      have HT3 := Lib.hid (Blk.go HT2.out hb)
      have HO3 := Lib.hid (ho.go (below_new w3 (.cells #[.slice A1 T.zn.org.length c1, .slice A2 T.zn.cur.length c2, .slice A3 T.zn.touch.length c3, .slice A4 T.zn.ends.length c4, .slice A5 T.cv.length c5, .slice A6 T.st.length c6, .slice A7 T.sk.length c7, .int .i64 T.steps, .int .i64 0, .int .i64 T.err] 39)))
      have HA3 := Lib.hid (Blk.new w3 39 #[.slice A1 T.zn.org.length c1, .slice A2 T.zn.cur.length c2, .slice A3 T.zn.touch.length c3, .slice A4 T.zn.ends.length c4, .slice A5 T.cv.length c5, .slice A6 T.st.length c6, .slice A7 T.sk.length c7, .int .i64 T.steps, .int .i64 0, .int .i64 T.err])
      clear p0 p1 p2 p3 z0 z1 z2 z3 pl zl
      clear H2 HW2 HT2 hb hb3 ho
      go_upto_region 5 with fail
      generalize w3.alloc (.cells #[.slice A1 T.zn.org.length c1, .slice A2 T.zn.cur.length c2, .slice A3 T.zn.touch.length c3, .slice A4 T.zn.ends.length c4, .slice A5 T.cv.length c5, .slice A6 T.st.length c6, .slice A7 T.sk.length c7, .int .i64 T.steps, .int .i64 0, .int .i64 T.err] 39) = X3 at *
      generalize w3.heap.size = ab at *
      go_wp2_with fail
      refine (out_run X3 code [] 0 ⟨[], [], [], []⟩ A none none none none none none none c 0 0 0 0 0 0 0 0 0 H3.out.co Reads.none_ (zn_none X3) (by decide) zn_none_ok HCL.out).mono ?_
      rintro e w4 ⟨N1, N2, N3, N4, N5, N6, N7, n1, n2, n3, n4, n5, n6, n7, rfl, _, hb⟩
      have H4 := Lib.hid (H3.out.go hb)
      have HW4 := Lib.hid (ZnAt.go HW3.out hb)
      have HT4 := Lib.hid (Blk.go HT3.out hb)
      have HO4 := Lib.hid (HO3.out.go hb)
      have HA4 := Lib.hid (Blk.go HA3.out hb)
      clear H3 HW3 HT3 HO3 HA3 hb
      go_upto_region 6 with fail
      have p0 := H4.out.pz.cell 0
      have p1 := H4.out.pz.cell 1
      have p2 := H4.out.pz.cell 2
      have p3 := H4.out.pz.cell 3
      have z0 := H4.out.zz.cell 0
      have z1 := H4.out.zz.cell 1
      have z2 := H4.out.zz.cell 2
      have z3 := H4.out.zz.cell 3
      simp only [List.getElem?_toArray, List.getElem?_cons_zero, List.getElem?_cons_succ] at p0 p1 p2 p3 z0 z1 z2 z3
      have pl := H4.out.pz.lt
      have zl := H4.out.zz.lt
      go_wp2_with fail
      refine (out_run w4 code cvt size z A fA mA cA oA uA tA eA c fn fc mn mc cc oc uc tc ec H4.out.co H4.out.cv H4.out.zn HCV.out HZ.out HCL.out).mono ?_
      rw [← HT.out]
      rintro e w5 ⟨B1, B2, B3, B4, B5, B6, B7, d1, d2, d3, d4, d5, d6, d7, rfl, ho, hb5⟩
      have hb := hb5.alloc hb5.size (.cells #[.slice B1 T.zn.org.length d1, .slice B2 T.zn.cur.length d2, .slice B3 T.zn.touch.length d3, .slice B4 T.zn.ends.length d4, .slice B5 T.cv.length d5, .slice B6 T.st.length d6, .slice B7 T.sk.length d7, .int .i64 T.steps, .int .i64 0, .int .i64 T.err] 39)
      have H5 := Lib.hid (H4.out.go hb)
      have HW5 := Lib.hid (ZnAt.go HW4.out hb)
      have HO5 := Lib.hid (HO4.out.go hb)
      have HP5 := Lib.hid (ho.go (below_new w5 (.cells #[.slice B1 T.zn.org.length d1, .slice B2 T.zn.cur.length d2, .slice B3 T.zn.touch.length d3, .slice B4 T.zn.ends.length d4, .slice B5 T.cv.length d5, .slice B6 T.st.length d6, .slice B7 T.sk.length d7, .int .i64 T.steps, .int .i64 0, .int .i64 T.err] 39)))
      have HS5 := Lib.hid (show AgS tb ab w5.heap.size (w.heap.size + 1) #[.slice O1 (znOf z).org.length o1, .slice O2 (znOf z).cur.length o2, .slice O3 (znOf z).touch.length o3, .slice O4 (znOf z).ends.length o4] #[.slice A1 T.zn.org.length c1, .slice A2 T.zn.cur.length c2, .slice A3 T.zn.touch.length c3, .slice A4 T.zn.ends.length c4, .slice A5 T.cv.length c5, .slice A6 T.st.length c6, .slice A7 T.sk.length c7, .int .i64 T.steps, .int .i64 0, .int .i64 T.err] #[.slice B1 T.zn.org.length d1, .slice B2 T.zn.cur.length d2, .slice B3 T.zn.touch.length d3, .slice B4 T.zn.ends.length d4, .slice B5 T.cv.length d5, .slice B6 T.st.length d6, .slice B7 T.sk.length d7, .int .i64 T.steps, .int .i64 0, .int .i64 T.err] #[.slice oA z.org.length oc, .slice uA z.cur.length uc, .slice tA z.touch.length tc, .slice eA z.ends.length ec] (w5.alloc (.cells #[.slice B1 T.zn.org.length d1, .slice B2 T.zn.cur.length d2, .slice B3 T.zn.touch.length d3, .slice B4 T.zn.ends.length d4, .slice B5 T.cv.length d5, .slice B6 T.st.length d6, .slice B7 T.sk.length d7, .int .i64 T.steps, .int .i64 0, .int .i64 T.err] 39)) from ⟨Blk.go HT4.out hb, Blk.go HA4.out hb, Blk.new w5 39 #[.slice B1 T.zn.org.length d1, .slice B2 T.zn.cur.length d2, .slice B3 T.zn.touch.length d3, .slice B4 T.zn.ends.length d4, .slice B5 T.cv.length d5, .slice B6 T.st.length d6, .slice B7 T.sk.length d7, .int .i64 T.steps, .int .i64 0, .int .i64 T.err], H5.out.zz⟩)
      clear p0 p1 p2 p3 z0 z1 z2 z3 pl zl
      clear H4 HW4 HT4 HO4 HA4 hb hb5 ho
      go_upto_region 7 with fail
      generalize w5.alloc (.cells #[.slice B1 T.zn.org.length d1, .slice B2 T.zn.cur.length d2, .slice B3 T.zn.touch.length d3, .slice B4 T.zn.ends.length d4, .slice B5 T.cv.length d5, .slice B6 T.st.length d6, .slice B7 T.sk.length d7, .int .i64 T.steps, .int .i64 0, .int .i64 T.err] 39) = X5 at *
      generalize w5.heap.size = bb at *
      have hS : AgS tb ab bb (w.heap.size + 1) #[.slice O1 (znOf z).org.length o1, .slice O2 (znOf z).cur.length o2, .slice O3 (znOf z).touch.length o3, .slice O4 (znOf z).ends.length o4] #[.slice A1 T.zn.org.length c1, .slice A2 T.zn.cur.length c2, .slice A3 T.zn.touch.length c3, .slice A4 T.zn.ends.length c4, .slice A5 T.cv.length c5, .slice A6 T.st.length c6, .slice A7 T.sk.length c7, .int .i64 T.steps, .int .i64 0, .int .i64 T.err] #[.slice B1 T.zn.org.length d1, .slice B2 T.zn.cur.length d2, .slice B3 T.zn.touch.length d3, .slice B4 T.zn.ends.length d4, .slice B5 T.cv.length d5, .slice B6 T.st.length d6, .slice B7 T.sk.length d7, .int .i64 T.steps, .int .i64 0, .int .i64 T.err] #[.slice oA z.org.length oc, .slice uA z.cur.length uc, .slice tA z.touch.length tc, .slice eA z.ends.length ec] X5.drew := HS5.out
      refine wp_region_seqT (fun i => !([0, 4, 16, 17] : List Nat).contains i) (fun i => ([2, 3, 8, 10, 14, 15] : List Nat).contains i) (fun i => ([16] : List Nat).contains i) [0, 1, 2, 3, 4, 5, 6, 7, 8, 9, 10, 11, 12, 13, 14, 15, 16, 17, 18, 19] (AgS tb ab bb (w.heap.size + 1) #[.slice O1 (znOf z).org.length o1, .slice O2 (znOf z).cur.length o2, .slice O3 (znOf z).touch.length o3, .slice O4 (znOf z).ends.length o4] #[.slice A1 T.zn.org.length c1, .slice A2 T.zn.cur.length c2, .slice A3 T.zn.touch.length c3, .slice A4 T.zn.ends.length c4, .slice A5 T.cv.length c5, .slice A6 T.st.length c6, .slice A7 T.sk.length c7, .int .i64 T.steps, .int .i64 0, .int .i64 T.err] #[.slice B1 T.zn.org.length d1, .slice B2 T.zn.cur.length d2, .slice B3 T.zn.touch.length d3, .slice B4 T.zn.ends.length d4, .slice B5 T.cv.length d5, .slice B6 T.st.length d6, .slice B7 T.sk.length d7, .int .i64 T.steps, .int .i64 0, .int .i64 T.err] #[.slice oA z.org.length oc, .slice uA z.cur.length uc, .slice tA z.touch.length tc, .slice eA z.ends.length ec]) (by kernel_rfl) (by kernel_rfl) (by kernel_rfl) (by kernel_rfl) ?_
      refine wpSeq_heavy rfl rfl (fun K hK => ?_); go_simp
      refine (built_any _).mono ?_
      rintro e w6 ⟨rfl, hb⟩
      have H6 := Lib.hid (H5.out.drew.go hb)
      have HW6 := Lib.hid (ZnAt.go (ZnAt.drew HW5.out) hb)
      have HO6 := Lib.hid (HO5.out.drew.go hb)
      have HP6 := Lib.hid (HP5.out.drew.go hb)
      have HS6 := Lib.hid (hS.go hb)
      clear H5 HW5 HO5 HP5 HS5 hS hb
      refine hK _ _ (fun _ => HS6.out) ?_; clear hK K
      refine wpSeq_pureA (v := _) rfl rfl rfl ?_
      refine wpSeq_load (v := _) rfl rfl (by kernel_rfl) (fun _ _ _ h => h) HS6.out rfl (fun wq hq => by have hk := hq.2.1; have q0 := hk.cell 0; have q1 := hk.cell 1; have q2 := hk.cell 2; have q3 := hk.cell 3; have q4 := hk.cell 4; have q5 := hk.cell 5; have q6 := hk.cell 6; have q7 := hk.cell 7; have q8 := hk.cell 8; have q9 := hk.cell 9; simp only [List.getElem?_toArray, List.getElem?_cons_zero, List.getElem?_cons_succ] at q0 q1 q2 q3 q4 q5 q6 q7 q8 q9; have ql := hk.lt; clear hk hq; first | (go_simp; done) | (go_simp; rfl)) ?_
      go_simp
      refine wpSeq_load (v := _) rfl rfl (by kernel_rfl) (fun _ _ _ h => h) HS6.out rfl (fun wq hq => by have hk := hq.2.2.1; have q0 := hk.cell 0; have q1 := hk.cell 1; have q2 := hk.cell 2; have q3 := hk.cell 3; have q4 := hk.cell 4; have q5 := hk.cell 5; have q6 := hk.cell 6; have q7 := hk.cell 7; have q8 := hk.cell 8; have q9 := hk.cell 9; simp only [List.getElem?_toArray, List.getElem?_cons_zero, List.getElem?_cons_succ] at q0 q1 q2 q3 q4 q5 q6 q7 q8 q9; have ql := hk.lt; clear hk hq; first | (go_simp; done) | (go_simp; rfl)) ?_
      refine wpSeq_heavy rfl rfl (fun K hK => ?_); go_simp
      refine (rsame20_true w6 w6.heap.size (Nat.le_refl _) T.zn T.cv T.st T.sk T.steps 0 T.steps 0 T.err A1 A2 A3 A4 A5 A6 A7 B1 B2 B3 B4 B5 B6 B7 c1 c2 c3 c4 c5 c6 c7 d1 d2 d3 d4 d5 d6 d7 HOK.out.zn HOK.out.cv HOK.out.st HOK.out.sk HO6.out.zn HO6.out.cv HO6.out.st HO6.out.sk HP6.out.zn HP6.out.cv HP6.out.st HP6.out.sk).mono ?_
      rintro e w7 ⟨rfl, hg⟩
      have hb := Grow.below hg (Nat.le_refl _)
      have H7 := Lib.hid (H6.out.go hb)
      have HW7 := Lib.hid (ZnAt.go HW6.out hb)
      have HS7 := Lib.hid (HS6.out.go hb)
      clear H6 HW6 HO6 HP6 HS6 hg hb
      refine hK _ _ (fun _ => HS7.out) ?_; clear hK K
      iterate 3 (refine wpSeq_pureA (v := _) rfl rfl rfl ?_)
      refine wpSeq_load (v := _) rfl rfl (by kernel_rfl) (fun _ _ _ h => h) HS7.out rfl (fun wq hq => by have hk := hq.2.1; have q0 := hk.cell 0; have q1 := hk.cell 1; have q2 := hk.cell 2; have q3 := hk.cell 3; have q4 := hk.cell 4; have q5 := hk.cell 5; have q6 := hk.cell 6; have q7 := hk.cell 7; have q8 := hk.cell 8; have q9 := hk.cell 9; simp only [List.getElem?_toArray, List.getElem?_cons_zero, List.getElem?_cons_succ] at q0 q1 q2 q3 q4 q5 q6 q7 q8 q9; have ql := hk.lt; clear hk hq; first | (go_simp; done) | (go_simp; rfl)) ?_
      iterate 1 (refine wpSeq_pureA (v := _) rfl rfl rfl ?_)
      refine wpSeq_load (v := _) rfl rfl (by kernel_rfl) (fun _ _ _ h => h) HS7.out rfl (fun wq hq => by have hk := hq.2.2.1; have q0 := hk.cell 0; have q1 := hk.cell 1; have q2 := hk.cell 2; have q3 := hk.cell 3; have q4 := hk.cell 4; have q5 := hk.cell 5; have q6 := hk.cell 6; have q7 := hk.cell 7; have q8 := hk.cell 8; have q9 := hk.cell 9; simp only [List.getElem?_toArray, List.getElem?_cons_zero, List.getElem?_cons_succ] at q0 q1 q2 q3 q4 q5 q6 q7 q8 q9; have ql := hk.lt; clear hk hq; first | (go_simp; done) | (go_simp; rfl)) ?_
      iterate 3 (refine wpSeq_pureA (v := _) rfl rfl rfl ?_)
      refine wpSeq_load (v := _) rfl rfl (by kernel_rfl) (fun _ _ _ h => h) HS7.out rfl (fun wq hq => by have hk := hq.1; have q0 := hk.cell 0; have q1 := hk.cell 1; have q2 := hk.cell 2; have q3 := hk.cell 3; simp only [List.getElem?_toArray, List.getElem?_cons_zero, List.getElem?_cons_succ] at q0 q1 q2 q3; have ql := hk.lt; clear hk hq; first | (go_simp; done) | (go_simp; rfl)) ?_
      go_simp
      refine wpSeq_load (v := _) rfl rfl (by kernel_rfl) (fun _ _ _ h => h) HS7.out rfl (fun wq hq => by have hk := hq.2.2.2; have q0 := hk.cell 0; have q1 := hk.cell 1; have q2 := hk.cell 2; have q3 := hk.cell 3; simp only [List.getElem?_toArray, List.getElem?_cons_zero, List.getElem?_cons_succ] at q0 q1 q2 q3; have ql := hk.lt; clear hk hq; first | (go_simp; done) | (go_simp; rfl)) ?_
      refine wpSeq_heavy rfl rfl (fun K hK => ?_); go_simp
      refine (rzone_any w7 w7.heap.size z HZ.out oA uA tA eA oc uc tc ec H7.out.zn (Nat.le_refl _)).mono ?_
      rintro e w8 ⟨og, cu, tu, en, rfl, ho, hg⟩
      obtain ⟨Q1, u1, rfl, _⟩ := owns_form ho.1
      obtain ⟨Q2, u2, rfl, _⟩ := owns_form ho.2.1
      obtain ⟨Q3, u3, rfl, _⟩ := owns_form ho.2.2.1
      obtain ⟨Q4, u4, rfl, _⟩ := owns_form ho.2.2.2
      have hb := Grow.below hg (Nat.le_refl _)
      have H8 := Lib.hid (H7.out.go hb)
      have HW8 := Lib.hid (ZnAt.go HW7.out hb)
      have HS8 := Lib.hid (HS7.out.go hb)
      have HQ8 := Lib.hid ho.at_
      clear H7 HW7 HS7 hg hb ho
      refine hK _ _ (fun _ => HS8.out) ?_; clear hK K
      refine wpSeq_heavy rfl rfl (fun K hK => ?_); go_simp
      have hsz := rsameZone_any (znOf z) (znOf z) w8.heap.size O1 O2 O3 O4 Q1 Q2 Q3 Q4 o1 o2 o3 o4 u1 u2 u3 u4 w8 (Nat.le_refl _) HW8.out HQ8.out (znOf_ok HZ.out) (znOf_ok HZ.out)
      rw [decide_eq_true ⟨rfl, rfl, rfl, rfl⟩] at hsz
      refine hsz.mono ?_
      rintro e w9 ⟨rfl, hg⟩
      have hbw := (H8.out.go (Grow.below hg (Nat.le_refl _))).b
      clear hsz hg H8 HW8 HS8 HQ8
      refine hK _ _ (fun h => by cases h) ?_; clear hK K
      iterate 2 (refine wpSeq_pureA (v := _) rfl rfl rfl ?_)
      refine wpSeq_end ?_
      go_wp2_with fail
      go_ret
      exact ⟨rfl, hbw⟩
end Go.Proofs.YtnhebmgibiomnaaGreat
namespace Go.Proofs.YtnhebmgibiomnaaGreat
open Go.RowKit Mc
theorem regs_one : ∀ (l : List Sr.Reg), ∀ u ∈ regCells l, u.oneCell' = true
  | [], u, h => by cases h
  | x :: l, u, h => by
    rw [regCells] at h
    simp only [List.cons_append, List.nil_append, List.mem_cons] at h
    rcases h with rfl | rfl | rfl | rfl | rfl | h
    · rfl
    · rfl
    · rfl
    · rfl
    · rfl
    · exact regs_one l u h
theorem owns_alloc {w : World} {base size n : Nat} {t : TypeId} {v : Value} {xs : List Value} (h : w.ownsRow base t size v n xs) (o : Obj) : (w.alloc o).ownsRow base t size v n xs := ownsRow_below h ((Below.refl _ _).alloc (Nat.le_refl _) o) (Nat.le_refl _)
theorem ahead_own {w : World} {base : Nat} {v : Value} {code : List Sr.Reg} (h : w.ownsRow base 50 5 v (0 + 3 + code.length) ([] ++ regCells Sr.ahead ++ regCells code)) : w.ownsRow base 50 5 v (Sr.ahead ++ code).length (regCells (Sr.ahead ++ code)) := by
  rw [regCells_app, List.length_append]
  exact h
def KpS (ab bb : Nat) (ca cb : Array Value) (w' : World) : Prop := Blk w' ab 39 ca ∧ Blk w' bb 39 cb
theorem KpS.go {ab bb : Nat} {ca cb : Array Value} {X Y : World} (h : KpS ab bb ca cb X) (hb : Below X.heap.size X Y) : KpS ab bb ca cb Y := ⟨Blk.go h.1 hb, Blk.go h.2 hb⟩
set_option maxRecDepth 100000 in
set_option maxHeartbeats 8000000 in
theorem straightSkips_walk (code : List Sr.Reg) (cvt : List Int) (size : Int) (z : Zn) (A fA mA cA oA uA tA eA : Option Addr) (c fn fc mn mc cc oc uc tc ec : Nat) (w : World) (hcap : code.length ≤ c) (hmax : c ≤ maxLen) (h1 : Reads w w.heap.size 5 A code.length (regCells code)) (h2 : Reads w w.heap.size 1 cA cvt.length (ints cvt)) (h3 : ZnAt w w.heap.size z oA uA tA eA) :
    Calls Tryz.prog 7 #[.slice A code.length c, (.agg #[.slice fA fn fc, .slice mA mn mc, .slice cA cvt.length cc, .int .i64 size]), (.agg #[.slice oA z.org.length oc, .slice uA z.cur.length uc, .slice tA z.touch.length tc, .slice eA z.ends.length ec])] w fun e w' => e = .returned (.bool true) ∧ Below w.heap.size w w' := by
  have H := Lib.hid (StW.start (fA := fA) (mA := mA) (c := c) (fn := fn) (fc := fc) (mn := mn) (mc := mc) (cc := cc) (oc := oc) (uc := uc) (tc := tc) (ec := ec) (size := size) w h1 h2 h3)
  clear h1 h2 h3 hmax hcap
  go_enter Tryz.func7, Tryz.ntmps7
  go_upto_region 1 with fail
  generalize (w.alloc (.cells #[.slice fA fn fc, .slice mA mn mc, .slice cA cvt.length cc, .int .i64 size] 26)).alloc (.cells #[.slice oA z.org.length oc, .slice uA z.cur.length uc, .slice tA z.touch.length tc, .slice eA z.ends.length ec] 30) = X at *
  have p0 := H.out.pz.cell 0
  have p1 := H.out.pz.cell 1
  have p2 := H.out.pz.cell 2
  have p3 := H.out.pz.cell 3
  have z0 := H.out.zz.cell 0
  have z1 := H.out.zz.cell 1
  have z2 := H.out.zz.cell 2
  have z3 := H.out.zz.cell 3
  simp only [List.getElem?_toArray, List.getElem?_cons_zero, List.getElem?_cons_succ] at p0 p1 p2 p3 z0 z1 z2 z3
  have pl := H.out.pz.lt
  have zl := H.out.zz.lt
  go_wp2_with fail
  refine (small_any A oA uA tA eA code.length z.org.length z.cur.length z.touch.length z.ends.length c oc uc tc ec X).mono ?_
  rintro e w1 ⟨rfl, hg⟩
  have H1 := Lib.hid (H.out.go (Grow.below hg (Nat.le_refl _)))
  clear p0 p1 p2 p3 z0 z1 z2 z3 pl zl
  clear H hg
  have p0 := H1.out.pz.cell 0
  have p1 := H1.out.pz.cell 1
  have p2 := H1.out.pz.cell 2
  have p3 := H1.out.pz.cell 3
  have z0 := H1.out.zz.cell 0
  have z1 := H1.out.zz.cell 1
  have z2 := H1.out.zz.cell 2
  have z3 := H1.out.zz.cell 3
  simp only [List.getElem?_toArray, List.getElem?_cons_zero, List.getElem?_cons_succ] at p0 p1 p2 p3 z0 z1 z2 z3
  have pl := H1.out.pz.lt
  have zl := H1.out.zz.lt
  cases hs : smallV code.length z.org.length z.cur.length z.touch.length z.ends.length
  · go_wp2_with fail
    refine (built_any _).mono ?_
    rintro e w9 ⟨rfl, hb9⟩
    have hb9' := (H1.out.go hb9).b
    clear p0 p1 p2 p3 z0 z1 z2 z3 pl zl
    clear hb9
    go_wp2_with fail
    go_ret
    exact ⟨rfl, hb9'⟩
  · unfold smallV at hs
    simp only [Bool.and_eq_true, decide_eq_true_eq] at hs
    obtain ⟨⟨⟨⟨s1, s2⟩, s3⟩, s4⟩, s5⟩ := hs
    by_cases hcv : (100 : Int) < cvt.length
    · go_wp2_with fail
      refine (built_any _).mono ?_
      rintro e w9 ⟨rfl, hb9⟩
      have hb9' := (H1.out.go hb9).b
      clear p0 p1 p2 p3 z0 z1 z2 z3 pl zl
      clear hb9
      go_wp2_with fail
      go_ret
      exact ⟨rfl, hb9'⟩
    · go_wp2_with fail
      refine (right_any A c _ code w1 H1.out.co (Nat.le_refl _) (by omega)).mono ?_
      rintro e w2 ⟨rfl, hb⟩
      have H2 := Lib.hid (H1.out.go hb)
      clear p0 p1 p2 p3 z0 z1 z2 z3 pl zl
      clear H1 hb
      have p0 := H2.out.pz.cell 0
      have p1 := H2.out.pz.cell 1
      have p2 := H2.out.pz.cell 2
      have p3 := H2.out.pz.cell 3
      have z0 := H2.out.zz.cell 0
      have z1 := H2.out.zz.cell 1
      have z2 := H2.out.zz.cell 2
      have z3 := H2.out.zz.cell 3
      simp only [List.getElem?_toArray, List.getElem?_cons_zero, List.getElem?_cons_succ] at p0 p1 p2 p3 z0 z1 z2 z3
      have pl := H2.out.pz.lt
      have zl := H2.out.zz.lt
      cases hr : Sr.right code
      · go_wp2_with fail
        refine (built_any _).mono ?_
        rintro e w9 ⟨rfl, hb9⟩
        have hb9' := (H2.out.go hb9).b
        clear p0 p1 p2 p3 z0 z1 z2 z3 pl zl
        clear hb9
        go_wp2_with fail
        go_ret
        exact ⟨rfl, hb9'⟩
      · have HZ := Lib.hid (ZnOk.mk (z := z) (by omega) (by omega) (by omega) (by omega))
        have HCV := Lib.hid (show cvt.length ≤ 1000000 by omega)
        have HC2 := Lib.hid s1
        have HR := Lib.hid hr
        clear s1 s2 s3 s4 s5 hr
        clear p0 p1 p2 p3 z0 z1 z2 z3 pl zl
        go_upto_region 4 with fail
        obtain ⟨i0, hi0, hi1, hi2, hi3⟩ := info_m info_reg
        have hb0 := Blk.new w2 50 #[]
        have HG0 := Lib.hid ((Fr.refl _ w2 : Grow w2 w2).alloc (.cells #[] 50))
        have ho0 := owns_empty (size := 5) hb0 (Nat.le_refl _)
        generalize hx0 : w2.alloc (.cells #[] 50) = X0 at *
        have hz0 : w2.heap.size < X0.heap.size := by rw [← hx0]; simp
        clear hx0
        have HGB := Lib.hid (Nat.le_refl w2.heap.size)
        generalize hgb : w2.heap.size = gb at HGB ho0 hz0 ⊢
        have HGB := Lib.hid hgb
        have HZ0 := Lib.hid hz0
        have HO0 := Lib.hid (owns_alloc ho0 (.cells #[.int .i64 35, .int .i64 0, .int .i64 0, .int .i64 0, .int .i64 2, .int .i64 34, .int .i64 0, .int .i64 0, .int .i64 0, .int .i64 0, .int .i64 1, .int .i64 3, .int .i64 0, .int .i64 0, .int .i64 9] 50))
        have HR0 := Lib.hid (Reads.blk (cs := regCells Sr.ahead) (Blk.new X0 50 (regCells Sr.ahead).toArray) 5 3 rfl)
        clear hb0 ho0 hz0 hgb
        go_upto_region 5 with (at_builtin; refine wpList_append_any _ rfl (.tmp 27) (.tmp 31) _ rfl gb 50 i0 _ 5 40 Tryz.underlying32 hi0 hi1 hi2 hi3 rfl (by decide) (.slice (some ⟨gb, 0, none⟩) 0 0) 0 [] rfl HO0.out _ (some ⟨X0.heap.size, 0, none⟩) 3 3 (regCells Sr.ahead) rfl HR0.out (regs_one _) (by unfold maxLen; omega) (by omega) (by have := HZ0.out; simp; omega) ?_; intro v' w3 ho3 hg3 _; obtain ⟨A3, c3, rfl, _⟩ := owns_form ho3; have HG3 := Lib.hid (grow_of_grown (HG0.out.alloc (.cells #[.int .i64 35, .int .i64 0, .int .i64 0, .int .i64 0, .int .i64 2, .int .i64 34, .int .i64 0, .int .i64 0, .int .i64 0, .int .i64 0, .int .i64 1, .int .i64 3, .int .i64 0, .int .i64 0, .int .i64 9] 50)) hg3 (fun g e => by have := HGB.out; simp only [Value.ownBlock, Option.some.injEq] at e; omega)); have HO3 := Lib.hid ho3; clear ho3 hg3 HO0 HR0 HG0 HZ0)
        have HC3 := Lib.hid (H2.out.co.go (Grow.below HG3.out (Nat.le_refl _)))
        have hgz : gb ≤ w3.heap.size := by rw [← HGB.out]; exact HG3.out.size
        have HGZ := Lib.hid hgz
        clear hgz
        have HCI := Lib.hid (show code.length ≤ 200 from HC2.out)
        go_upto_region 6 with (at_builtin; refine wpList_append_any _ rfl (.tmp 33) (.tmp 34) _ rfl gb 50 i0 _ 5 40 Tryz.underlying32 hi0 hi1 hi2 hi3 rfl (by decide) (.slice A3 (0 + 3) c3) (0 + 3) ([] ++ regCells Sr.ahead) rfl HO3.out w3.heap.size A code.length c (regCells code) rfl HC3.out (regs_one _) (by have := HCI.out; unfold maxLen; omega) (by have := HCI.out; omega) HGZ.out ?_; intro v' w4 ho4 hg4 _; have ho4 := ahead_own ho4; obtain ⟨n2, hn2⟩ : ∃ n, n = (Sr.ahead ++ code).length := ⟨_, rfl⟩; rw [← hn2] at ho4; obtain ⟨A4, c4, rfl, _⟩ := owns_form ho4; have HN2 := Lib.hid hn2; clear hn2; have HG4 := Lib.hid (grow_of_grown HG3.out hg4 (fun g e => by have := HGB.out; have := owns_block HO3.out e; omega)); have HO4 := Lib.hid ho4; clear ho4 hg4 HO3 HC3 HG3 HGZ)
        have hb := Grow.below HG4.out (Nat.le_refl _)
        have H4 := Lib.hid (H2.out.go hb)
        have hx4 := Reads.of_own HO4.out
        rw [HN2.out] at hx4
        have HX4 := Lib.hid hx4
        clear H2 HG4 HO4 hb hx4
        have p0 := H4.out.pz.cell 0
        have p1 := H4.out.pz.cell 1
        have p2 := H4.out.pz.cell 2
        have p3 := H4.out.pz.cell 3
        have z0 := H4.out.zz.cell 0
        have z1 := H4.out.zz.cell 1
        have z2 := H4.out.zz.cell 2
        have z3 := H4.out.zz.cell 3
        simp only [List.getElem?_toArray, List.getElem?_cons_zero, List.getElem?_cons_succ] at p0 p1 p2 p3 z0 z1 z2 z3
        have pl := H4.out.pz.lt
        have zl := H4.out.zz.lt
        go_wp2_with fail
        refine (out_run w4 code cvt size z A fA mA cA oA uA tA eA c fn fc mn mc cc oc uc tc ec H4.out.co H4.out.cv H4.out.zn HCV.out HZ.out (by have := HC2.out; omega)).mono ?_
        have hah := Sr.out_ahead HR.out HC2.out cvt size z
        obtain ⟨her, hsn, _⟩ := Sr.out_right HR.out cvt size z
        have HOK := Lib.hid (Sr.out_ok code cvt size z HZ.out HCV.out)
        generalize Sr.out code cvt size z = T at *
        rintro e w5 ⟨A1, A2, A3', A4', A5, A6, A7, c1, c2, c3', c4', c5, c6, c7, rfl, ho, hb5⟩
        have HAH := Lib.hid hah
        have HSN := Lib.hid hsn
        clear hah her hsn
        have hb := hb5.alloc hb5.size (.cells #[.slice A1 T.zn.org.length c1, .slice A2 T.zn.cur.length c2, .slice A3' T.zn.touch.length c3', .slice A4' T.zn.ends.length c4', .slice A5 T.cv.length c5, .slice A6 T.st.length c6, .slice A7 T.sk.length c7, .int .i64 T.steps, .int .i64 0, .int .i64 T.err] 39)
        have H5 := Lib.hid (H4.out.go hb)
        have HX5 := Lib.hid (Reads.go HX4.out hb)
        have HO5 := Lib.hid (ho.go (below_new w5 (.cells #[.slice A1 T.zn.org.length c1, .slice A2 T.zn.cur.length c2, .slice A3' T.zn.touch.length c3', .slice A4' T.zn.ends.length c4', .slice A5 T.cv.length c5, .slice A6 T.st.length c6, .slice A7 T.sk.length c7, .int .i64 T.steps, .int .i64 0, .int .i64 T.err] 39)))
        have HA5 := Lib.hid (Blk.new w5 39 #[.slice A1 T.zn.org.length c1, .slice A2 T.zn.cur.length c2, .slice A3' T.zn.touch.length c3', .slice A4' T.zn.ends.length c4', .slice A5 T.cv.length c5, .slice A6 T.st.length c6, .slice A7 T.sk.length c7, .int .i64 T.steps, .int .i64 0, .int .i64 T.err])
        clear p0 p1 p2 p3 z0 z1 z2 z3 pl zl
        clear H4 HX4 hb hb5 ho
        go_upto_region 7 with fail
        generalize w5.alloc (.cells #[.slice A1 T.zn.org.length c1, .slice A2 T.zn.cur.length c2, .slice A3' T.zn.touch.length c3', .slice A4' T.zn.ends.length c4', .slice A5 T.cv.length c5, .slice A6 T.st.length c6, .slice A7 T.sk.length c7, .int .i64 T.steps, .int .i64 0, .int .i64 T.err] 39) = X5 at *
        generalize w5.heap.size = ab at *
        have p0 := H5.out.pz.cell 0
        have p1 := H5.out.pz.cell 1
        have p2 := H5.out.pz.cell 2
        have p3 := H5.out.pz.cell 3
        have z0 := H5.out.zz.cell 0
        have z1 := H5.out.zz.cell 1
        have z2 := H5.out.zz.cell 2
        have z3 := H5.out.zz.cell 3
        simp only [List.getElem?_toArray, List.getElem?_cons_zero, List.getElem?_cons_succ] at p0 p1 p2 p3 z0 z1 z2 z3
        have pl := H5.out.pz.lt
        have zl := H5.out.zz.lt
        go_wp2_with fail
        rw [HN2.out]
        refine (out_run X5 (Sr.ahead ++ code) cvt size z A4 fA mA cA oA uA tA eA c4 fn fc mn mc cc oc uc tc ec HX5.out H5.out.cv H5.out.zn HCV.out HZ.out (by have := HC2.out; simp [Sr.ahead]; omega)).mono ?_
        rw [HAH.out]
        dsimp only
        rw [← HN2.out]
        rintro e w6 ⟨B1, B2, B3, B4, B5, B6, B7, d1, d2, d3, d4, d5, d6, d7, rfl, ho, hb6⟩
        have ho : OutAt w6 { T with steps := T.steps + 1 } B1 B2 B3 B4 B5 B6 B7 := ho
        have hb := hb6.alloc hb6.size (.cells #[.slice B1 T.zn.org.length d1, .slice B2 T.zn.cur.length d2, .slice B3 T.zn.touch.length d3, .slice B4 T.zn.ends.length d4, .slice B5 T.cv.length d5, .slice B6 T.st.length d6, .slice B7 T.sk.length d7, .int .i64 ((T.steps : Int) + 1), .int .i64 0, .int .i64 T.err] 39)
        have H6 := Lib.hid (H5.out.go hb)
        have HX6 := Lib.hid (Reads.go HX5.out hb)
        have HO6 := Lib.hid (HO5.out.go hb)
        have HP6 := Lib.hid (ho.go (below_new w6 (.cells #[.slice B1 T.zn.org.length d1, .slice B2 T.zn.cur.length d2, .slice B3 T.zn.touch.length d3, .slice B4 T.zn.ends.length d4, .slice B5 T.cv.length d5, .slice B6 T.st.length d6, .slice B7 T.sk.length d7, .int .i64 ((T.steps : Int) + 1), .int .i64 0, .int .i64 T.err] 39)))
        have HS6 := Lib.hid (show KpS ab w6.heap.size #[.slice A1 T.zn.org.length c1, .slice A2 T.zn.cur.length c2, .slice A3' T.zn.touch.length c3', .slice A4' T.zn.ends.length c4', .slice A5 T.cv.length c5, .slice A6 T.st.length c6, .slice A7 T.sk.length c7, .int .i64 T.steps, .int .i64 0, .int .i64 T.err] #[.slice B1 T.zn.org.length d1, .slice B2 T.zn.cur.length d2, .slice B3 T.zn.touch.length d3, .slice B4 T.zn.ends.length d4, .slice B5 T.cv.length d5, .slice B6 T.st.length d6, .slice B7 T.sk.length d7, .int .i64 ((T.steps : Int) + 1), .int .i64 0, .int .i64 T.err] (w6.alloc (.cells #[.slice B1 T.zn.org.length d1, .slice B2 T.zn.cur.length d2, .slice B3 T.zn.touch.length d3, .slice B4 T.zn.ends.length d4, .slice B5 T.cv.length d5, .slice B6 T.st.length d6, .slice B7 T.sk.length d7, .int .i64 ((T.steps : Int) + 1), .int .i64 0, .int .i64 T.err] 39)) from ⟨Blk.go HA5.out hb, Blk.new w6 39 #[.slice B1 T.zn.org.length d1, .slice B2 T.zn.cur.length d2, .slice B3 T.zn.touch.length d3, .slice B4 T.zn.ends.length d4, .slice B5 T.cv.length d5, .slice B6 T.st.length d6, .slice B7 T.sk.length d7, .int .i64 ((T.steps : Int) + 1), .int .i64 0, .int .i64 T.err]⟩)
        clear p0 p1 p2 p3 z0 z1 z2 z3 pl zl
        clear H5 HX5 HO5 HA5 hb hb6 ho
        go_upto_region 8 with fail
        generalize w6.alloc (.cells #[.slice B1 T.zn.org.length d1, .slice B2 T.zn.cur.length d2, .slice B3 T.zn.touch.length d3, .slice B4 T.zn.ends.length d4, .slice B5 T.cv.length d5, .slice B6 T.st.length d6, .slice B7 T.sk.length d7, .int .i64 ((T.steps : Int) + 1), .int .i64 0, .int .i64 T.err] 39) = X6 at *
        generalize w6.heap.size = bb at *
        go_wp2_with fail
        refine (built_any _).mono ?_
        rintro e w7 ⟨rfl, hb⟩
        have H7 := Lib.hid (H6.out.go hb)
        have HX7 := Lib.hid (Reads.go HX6.out hb)
        have HO7 := Lib.hid (HO6.out.go hb)
        have HP7 := Lib.hid (HP6.out.go hb)
        have HS7 := Lib.hid (HS6.out.go hb)
        clear H6 HX6 HO6 HP6 HS6 hb
        go_wp2_with fail
        have hq := right_any A4 c4 w7.heap.size (Sr.ahead ++ code) w7 HX7.out (Nat.le_refl _) (by have := HC2.out; simp [Sr.ahead]; omega)
        rw [Sr.ahead_right HR.out HC2.out, ← HN2.out] at hq
        refine hq.mono ?_
        rintro e w8 ⟨rfl, hb⟩
        have H8 := Lib.hid (H7.out.go hb)
        have HO8 := Lib.hid (HO7.out.go hb)
        have HP8 := Lib.hid (HP7.out.go hb)
        have HS8 := Lib.hid (HS7.out.go hb)
        clear H7 HX7 HO7 HP7 HS7 hb hq
        have q0 := HS8.out.1.cell 0
        have q1 := HS8.out.1.cell 1
        have q2 := HS8.out.1.cell 2
        have q3 := HS8.out.1.cell 3
        have q4 := HS8.out.1.cell 4
        have q5 := HS8.out.1.cell 5
        have q6 := HS8.out.1.cell 6
        have q7 := HS8.out.1.cell 7
        have q8 := HS8.out.1.cell 8
        have q9 := HS8.out.1.cell 9
        simp only [List.getElem?_toArray, List.getElem?_cons_zero, List.getElem?_cons_succ] at q0 q1 q2 q3 q4 q5 q6 q7 q8 q9
        have ql := HS8.out.1.lt
        have r0 := HS8.out.2.cell 0
        have r1 := HS8.out.2.cell 1
        have r2 := HS8.out.2.cell 2
        have r3 := HS8.out.2.cell 3
        have r4 := HS8.out.2.cell 4
        have r5 := HS8.out.2.cell 5
        have r6 := HS8.out.2.cell 6
        have r7 := HS8.out.2.cell 7
        have r8 := HS8.out.2.cell 8
        have r9 := HS8.out.2.cell 9
        simp only [List.getElem?_toArray, List.getElem?_cons_zero, List.getElem?_cons_succ] at r0 r1 r2 r3 r4 r5 r6 r7 r8 r9
        have rl := HS8.out.2.lt
        go_wp2_with fail
        refine (rsame20_true w8 w8.heap.size (Nat.le_refl _) T.zn T.cv T.st T.sk T.steps 0 ((T.steps : Int) + 1) 0 T.err A1 A2 A3' A4' A5 A6 A7 B1 B2 B3 B4 B5 B6 B7 c1 c2 c3' c4' c5 c6 c7 d1 d2 d3 d4 d5 d6 d7 HOK.out.zn HOK.out.cv HOK.out.st HOK.out.sk HO8.out.zn HO8.out.cv HO8.out.st HO8.out.sk HP8.out.zn HP8.out.cv HP8.out.st HP8.out.sk).mono ?_
        rintro e w9 ⟨rfl, hg⟩
        have hb := Grow.below hg (Nat.le_refl _)
        have hbw := (H8.out.go hb).b
        have HS9 := Lib.hid (HS8.out.go hb)
        clear H8 HO8 HP8 HS8 hg hb
        clear q0 q1 q2 q3 q4 q5 q6 q7 q8 q9 ql
        clear r0 r1 r2 r3 r4 r5 r6 r7 r8 r9 rl
        have q0 := HS9.out.1.cell 0
        have q1 := HS9.out.1.cell 1
        have q2 := HS9.out.1.cell 2
        have q3 := HS9.out.1.cell 3
        have q4 := HS9.out.1.cell 4
        have q5 := HS9.out.1.cell 5
        have q6 := HS9.out.1.cell 6
        have q7 := HS9.out.1.cell 7
        have q8 := HS9.out.1.cell 8
        have q9 := HS9.out.1.cell 9
        simp only [List.getElem?_toArray, List.getElem?_cons_zero, List.getElem?_cons_succ] at q0 q1 q2 q3 q4 q5 q6 q7 q8 q9
        have ql := HS9.out.1.lt
        have r0 := HS9.out.2.cell 0
        have r1 := HS9.out.2.cell 1
        have r2 := HS9.out.2.cell 2
        have r3 := HS9.out.2.cell 3
        have r4 := HS9.out.2.cell 4
        have r5 := HS9.out.2.cell 5
        have r6 := HS9.out.2.cell 6
        have r7 := HS9.out.2.cell 7
        have r8 := HS9.out.2.cell 8
        have r9 := HS9.out.2.cell 9
        simp only [List.getElem?_toArray, List.getElem?_cons_zero, List.getElem?_cons_succ] at r0 r1 r2 r3 r4 r5 r6 r7 r8 r9
        have rl := HS9.out.2.lt
        have hwk : IntKind.i64.wrap ((T.steps : Int) + 1) = ((T.steps : Int) + 1) := IntWalk.i64_in _ (by have := HSN.out; have := HC2.out; omega)
        go_wp2_with fail
        go_ret
        exact ⟨rfl, hbw⟩
end Go.Proofs.YtnhebmgibiomnaaGreat

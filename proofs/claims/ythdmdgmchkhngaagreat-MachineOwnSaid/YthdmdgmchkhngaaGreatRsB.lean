/- fleuronref18.Same over two runs that are the same: true. -/
import Derived.Test.YthdmdgmchkhngaaGreatLwS
namespace Go.Proofs.YthdmdgmchkhngaaGreat
open Go.RowKit Mc

theorem Grow.trans_ {w w1 w2 : World} (h : Grow w w1) (k : Grow w1 w2) : Grow w w2 := Fr.trans h (k.mono fun _ _ x => x)
set_option maxHeartbeats 4000000 in
set_option maxRecDepth 100000 in
theorem rsame_true (w : World) (B : Nat) (hB : B ≤ w.heap.size) (z : Zn) (cv st sk : List Int) (n p r : Int) (A1 A2 A3 A4 A5 A6 A7 B1 B2 B3 B4 B5 B6 B7 : Option Addr) (c1 c2 c3 c4 c5 c6 c7 d1 d2 d3 d4 d5 d6 d7 : Nat) (hz : ZnOk z) (hcv : cv.length ≤ 1000000) (hst : st.length ≤ 1000000) (hsk : sk.length ≤ 1000000)
    (h : ZnAt w B z A1 A2 A3 A4) (h5 : Reads w B 1 A5 cv.length (ints cv)) (h6 : Reads w B 1 A6 st.length (ints st)) (h7 : Reads w B 1 A7 sk.length (ints sk)) (k : ZnAt w B z B1 B2 B3 B4) (k5 : Reads w B 1 B5 cv.length (ints cv)) (k6 : Reads w B 1 B6 st.length (ints st)) (k7 : Reads w B 1 B7 sk.length (ints sk)) :
    Calls Tryz.prog 20 #[.agg #[.slice A1 z.org.length c1, .slice A2 z.cur.length c2, .slice A3 z.touch.length c3, .slice A4 z.ends.length c4, .slice A5 cv.length c5, .slice A6 st.length c6, .slice A7 sk.length c7, .int .i64 n, .int .i64 p, .int .i64 r], .agg #[.slice B1 z.org.length d1, .slice B2 z.cur.length d2, .slice B3 z.touch.length d3, .slice B4 z.ends.length d4, .slice B5 cv.length d5, .slice B6 st.length d6, .slice B7 sk.length d7, .int .i64 n, .int .i64 p, .int .i64 r]] w fun e w' => e = .returned (.bool true) ∧ Grow w w' := by
  obtain ⟨X, hX⟩ : ∃ X, X = (w.alloc (.cells #[.slice A1 z.org.length c1, .slice A2 z.cur.length c2, .slice A3 z.touch.length c3, .slice A4 z.ends.length c4, .slice A5 cv.length c5, .slice A6 st.length c6, .slice A7 sk.length c7, .int .i64 n, .int .i64 p, .int .i64 r] 43)).alloc (.cells #[.slice B1 z.org.length d1, .slice B2 z.cur.length d2, .slice B3 z.touch.length d3, .slice B4 z.ends.length d4, .slice B5 cv.length d5, .slice B6 st.length d6, .slice B7 sk.length d7, .int .i64 n, .int .i64 p, .int .i64 r] 43) := ⟨_, rfl⟩
  have hXG : Grow w X := by rw [hX]; exact ((Fr.refl _ w).alloc _).alloc _
  have hb0 : Blk X w.heap.size 43 #[.slice A1 z.org.length c1, .slice A2 z.cur.length c2, .slice A3 z.touch.length c3, .slice A4 z.ends.length c4, .slice A5 cv.length c5, .slice A6 st.length c6, .slice A7 sk.length c7, .int .i64 n, .int .i64 p, .int .i64 r] := by rw [hX]; exact (Blk.new _ _ _).alloc _
  have hb1 : Blk X (w.heap.size + 1) 43 #[.slice B1 z.org.length d1, .slice B2 z.cur.length d2, .slice B3 z.touch.length d3, .slice B4 z.ends.length d4, .slice B5 cv.length d5, .slice B6 st.length d6, .slice B7 sk.length d7, .int .i64 n, .int .i64 p, .int .i64 r] := by rw [hX]; exact Blk.new_at _ _ _ (by simp)
  have key : ∀ q : Addr, q.block < B → X.cell? q = w.cell? q := fun q hq => hXG.cell (by omega) (fun x => x)
  have H := Lib.hid (h.keep key)
  have K := Lib.hid (k.keep key)
  have H5 := Lib.hid (h5.keep key)
  have H6 := Lib.hid (h6.keep key)
  have H7 := Lib.hid (h7.keep key)
  have K5 := Lib.hid (k5.keep key)
  have K6 := Lib.hid (k6.keep key)
  have K7 := Lib.hid (k7.keep key)
  have HXG := Lib.hid hXG
  have HX := Lib.hid hX
  have HO := Lib.hid hz
  have HB := Lib.hid hB
  have HB0 := Lib.hid hb0
  have HB1 := Lib.hid hb1
  have hxB : B ≤ X.heap.size := Nat.le_trans hB hXG.size
  have HCV := Lib.hid hcv
  have HST := Lib.hid hst
  have HSK := Lib.hid hsk
  clear h h5 h6 h7 k k5 k6 k7 hX hXG hb0 hb1 hB key hz hcv hst hsk
  go_enter Tryz.func20, Tryz.ntmps20
  go_upto_region 1 with fail
  rw [← HX.out]
  have p0 := HB0.out.cell 0
  have p1 := HB0.out.cell 1
  have p2 := HB0.out.cell 2
  have p3 := HB0.out.cell 3
  have q0 := HB1.out.cell 0
  have q1 := HB1.out.cell 1
  have q2 := HB1.out.cell 2
  have q3 := HB1.out.cell 3
  simp only [List.getElem?_toArray, List.getElem?_cons_zero, List.getElem?_cons_succ] at p0 p1 p2 p3 q0 q1 q2 q3
  have l0 := HB0.out.lt
  have l1 := HB1.out.lt
  go_wp2_with fail
  have hsz := rsameZone_any z z B A1 A2 A3 A4 B1 B2 B3 B4 c1 c2 c3 c4 d1 d2 d3 d4 X hxB H.out K.out HO.out HO.out
  rw [decide_eq_true ⟨rfl, rfl, rfl, rfl⟩] at hsz
  refine hsz.mono ?_
  rintro e w1 ⟨rfl, hg1⟩
  clear hsz p0 p1 p2 p3 q0 q1 q2 q3 l0 l1 HX
  have G1 := Lib.hid (Grow.trans_ HXG.out hg1)
  have V := Lib.hid hg1
  clear hg1
  have a5 := (V.out.blk HB0.out (fun x => x)).cell 4
  have b5 := (V.out.blk HB1.out (fun x => x)).cell 4
  simp only [List.getElem?_toArray, List.getElem?_cons_zero, List.getElem?_cons_succ] at a5 b5
  have m0 := (V.out.blk HB0.out (fun x => x)).lt
  have m1 := (V.out.blk HB1.out (fun x => x)).lt
  go_wp2_with fail
  have hn := rnums_any A5 B5 c5 d5 B B cv cv w1 (H5.out.keep fun q hq => V.out.cell (by omega) (fun x => x)) (K5.out.keep fun q hq => V.out.cell (by omega) (fun x => x)) HCV.out HCV.out
  rw [decide_eq_true rfl] at hn
  refine hn.mono ?_
  rintro e w2 ⟨rfl, hg⟩
  have V2 := Lib.hid (Grow.trans_ V.out hg)
  clear hn hg a5 b5 m0 m1 V
  obtain ⟨V, _⟩ : Hid _ ∧ True := ⟨V2, trivial⟩
  clear V2
  have a6 := (V.out.blk HB0.out (fun x => x)).cell 5
  have b6 := (V.out.blk HB1.out (fun x => x)).cell 5
  simp only [List.getElem?_toArray, List.getElem?_cons_zero, List.getElem?_cons_succ] at a6 b6
  have m0 := (V.out.blk HB0.out (fun x => x)).lt
  have m1 := (V.out.blk HB1.out (fun x => x)).lt
  go_wp2_with fail
  have hn := rnums_any A6 B6 c6 d6 B B st st w2 (H6.out.keep fun q hq => V.out.cell (by omega) (fun x => x)) (K6.out.keep fun q hq => V.out.cell (by omega) (fun x => x)) HST.out HST.out
  rw [decide_eq_true rfl] at hn
  refine hn.mono ?_
  rintro e w3 ⟨rfl, hg⟩
  have V2 := Lib.hid (Grow.trans_ V.out hg)
  clear hn hg a6 b6 m0 m1 V
  obtain ⟨V, _⟩ : Hid _ ∧ True := ⟨V2, trivial⟩
  clear V2
  have a7 := (V.out.blk HB0.out (fun x => x)).cell 6
  have b7 := (V.out.blk HB1.out (fun x => x)).cell 6
  simp only [List.getElem?_toArray, List.getElem?_cons_zero, List.getElem?_cons_succ] at a7 b7
  have m0 := (V.out.blk HB0.out (fun x => x)).lt
  have m1 := (V.out.blk HB1.out (fun x => x)).lt
  go_wp2_with fail
  have hn := rnums_any A7 B7 c7 d7 B B sk sk w3 (H7.out.keep fun q hq => V.out.cell (by omega) (fun x => x)) (K7.out.keep fun q hq => V.out.cell (by omega) (fun x => x)) HSK.out HSK.out
  rw [decide_eq_true rfl] at hn
  refine hn.mono ?_
  rintro e w4 ⟨rfl, hg⟩
  have V2 := Lib.hid (Grow.trans_ V.out hg)
  clear hn hg a7 b7 m0 m1 V
  obtain ⟨V, _⟩ : Hid _ ∧ True := ⟨V2, trivial⟩
  clear V2
  have f0 := V.out.blk HB0.out (fun x => x)
  have f1 := V.out.blk HB1.out (fun x => x)
  have a7 := f0.cell 7
  have a8 := f0.cell 8
  have a9 := f0.cell 9
  have b7 := f1.cell 7
  have b8 := f1.cell 8
  have b9 := f1.cell 9
  simp only [List.getElem?_toArray, List.getElem?_cons_zero, List.getElem?_cons_succ] at a7 a8 a9 b7 b8 b9
  have m0 := f0.lt
  have m1 := f1.lt
  have HE := Lib.hid (Grow.trans_ HXG.out V.out)
  clear f0 f1 V
  go_wp2_with fail
  go_ret
  exact ⟨rfl, HE.out⟩
/-- two runs that are told the same -/
theorem rsame_ran (w : World) (B : Nat) (hB : B ≤ w.heap.size) (s t : St) (hv : s.org = t.org ∧ s.cur = t.cur ∧ s.touch = t.touch ∧ s.ends = t.ends ∧ s.cvt = t.cvt ∧ s.store = t.store ∧ s.stack = t.stack ∧ s.steps = t.steps ∧ s.peak = t.peak)
    (hs : s.org.length ≤ 1000000 ∧ s.cur.length ≤ 1000000 ∧ s.touch.length ≤ 1000000 ∧ s.ends.length ≤ 1000000 ∧ s.cvt.length ≤ 1000000 ∧ s.store.length = 32 ∧ s.stack.length ≤ 32) (r : Int) {X Y : World} {C D : Nat} (A1 A2 A3 A4 A5 A6 A7 B1 B2 B3 B4 B5 B6 B7 : Option Addr) (c1 c2 c3 c4 c5 c6 c7 d1 d2 d3 d4 d5 d6 d7 : Nat)
    (h : RanAt C s X (.slice A1 s.org.length c1) (.slice A2 s.cur.length c2) (.slice A3 s.touch.length c3) (.slice A4 s.ends.length c4) (.slice A5 s.cvt.length c5) (.slice A6 32 c6) (.slice A7 s.stack.length c7)) (hX : X.heap.size ≤ B) (hXw : ∀ q : Addr, q.block < X.heap.size → w.cell? q = X.cell? q)
    (k : RanAt D t Y (.slice B1 t.org.length d1) (.slice B2 t.cur.length d2) (.slice B3 t.touch.length d3) (.slice B4 t.ends.length d4) (.slice B5 t.cvt.length d5) (.slice B6 32 d6) (.slice B7 t.stack.length d7)) (hY : Y.heap.size ≤ B) (hYw : ∀ q : Addr, q.block < Y.heap.size → w.cell? q = Y.cell? q) :
    Calls Tryz.prog 20 #[.agg #[.slice A1 s.org.length c1, .slice A2 s.cur.length c2, .slice A3 s.touch.length c3, .slice A4 s.ends.length c4, .slice A5 s.cvt.length c5, .slice A6 32 c6, .slice A7 s.stack.length c7, .int .i64 s.steps, .int .i64 s.peak, .int .i64 r], .agg #[.slice B1 t.org.length d1, .slice B2 t.cur.length d2, .slice B3 t.touch.length d3, .slice B4 t.ends.length d4, .slice B5 t.cvt.length d5, .slice B6 32 d6, .slice B7 t.stack.length d7, .int .i64 t.steps, .int .i64 t.peak, .int .i64 r]] w fun e w' => e = .returned (.bool true) ∧ Grow w w' := by
  have k1 := k.og
  have k2 := k.cu
  have k3 := k.to
  have k4 := k.en
  have k5 := k.cv
  have k6 := k.st
  have k7 := k.sk
  obtain ⟨e1, e2, e3, e4, e5, e6, e7, e8, e9⟩ := hv
  rw [← e1] at k1
  rw [← e2] at k2
  rw [← e3] at k3
  rw [← e4] at k4
  rw [← e5] at k5
  rw [← e6] at k6
  rw [← e7] at k7
  rw [← e1, ← e2, ← e3, ← e4, ← e5, ← e7, ← e8, ← e9]
  have hz : ZnOk ⟨s.org, s.cur, s.touch, s.ends⟩ := ⟨hs.1, hs.2.1, hs.2.2.1, hs.2.2.2.1⟩
  have rx : ∀ {n size : Nat} {A : Option Addr} {c : Nat} {t : TypeId} {xs : List Value}, X.ownsRow C t size (.slice A n c) n xs → Reads w B size A n xs := fun ho => ((Reads.of_own ho).keep hXw).more hX
  have ry : ∀ {n size : Nat} {A : Option Addr} {c : Nat} {t : TypeId} {xs : List Value}, Y.ownsRow D t size (.slice A n c) n xs → Reads w B size A n xs := fun ho => ((Reads.of_own ho).keep hYw).more hY
  have h6 := rx h.st
  have h7 := rx h.sk
  have g6 := ry k6
  have g7 := ry k7
  rw [← hs.2.2.2.2.2.1] at h6 g6
  rw [← List.length_reverse] at h7 g7
  have := rsame_true w B hB ⟨s.org, s.cur, s.touch, s.ends⟩ s.cvt s.store s.stack.reverse s.steps s.peak r A1 A2 A3 A4 A5 A6 A7 B1 B2 B3 B4 B5 B6 B7 c1 c2 c3 c4 c5 c6 c7 d1 d2 d3 d4 d5 d6 d7 hz hs.2.2.2.2.1 (by omega) (by rw [List.length_reverse]; omega)
    ⟨rx h.og, rx h.cu, rx h.to, rx h.en⟩ (rx h.cv) h6 h7 ⟨ry k1, ry k2, ry k3, ry k4⟩ (ry k5) g6 g7
  rw [hs.2.2.2.2.2.1, List.length_reverse] at this
  exact this
end Go.Proofs.YthdmdgmchkhngaaGreat

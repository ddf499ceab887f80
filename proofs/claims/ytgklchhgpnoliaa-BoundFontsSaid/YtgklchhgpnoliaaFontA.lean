/- bound.Font and fleuronref19.Font: their contracts. -/
import Derived.Test.YtgklchhgpnoliaaMadeN
import Derived.Test.YtgklchhgpnoliaaRefE
namespace Go.Proofs.Ytgklchhgpnoliaa
open Go.RowKit

namespace Bd
def fontGo (cs : List Cost) : Nat → List (List (Int × Int)) → Int × Int
  | _, [] => (-1, 0)
  | i, h :: r => if (whole h cs).2 ≠ 0 then ((i : Int), (whole h cs).2) else fontGo cs (i + 1) r
def font (ll : List (List (Int × Int))) (hs : List (List (Int × Int))) : Int × Int := if (funcs ll).2.2 ≠ 0 then (-1, (funcs ll).2.2) else fontGo (funcs ll).1 0 hs
theorem fontGo_at (cs : List Cost) (hs : List (List (Int × Int))) (k : Nat) (h : List (Int × Int)) (hk : hs[k]? = some h) : fontGo cs k (hs.drop k) = if (whole h cs).2 ≠ 0 then ((k : Int), (whole h cs).2) else fontGo cs (k + 1) (hs.drop (k + 1)) := by
  have hlt : k < hs.length := (List.getElem?_eq_some_iff.1 hk).1
  rw [List.drop_eq_getElem_cons hlt, show hs[k] = h from (List.getElem?_eq_some_iff.1 hk).2]
  rfl
theorem fontGo_end (cs : List Cost) (hs : List (List (Int × Int))) (k : Nat) (hk : hs.length ≤ k) : fontGo cs k (hs.drop k) = (-1, 0) := by
  rw [List.drop_eq_nil_of_le hk]
  rfl
theorem program_ok (ll : List (List (Int × Int))) (l : List (Int × Int)) (h : (funcs ll).2.2 = 0) : program ll l = whole l (funcs ll).1 := by
  unfold program
  rw [if_neg (by rw [h]; simp)]
end Bd
def FontPost (w : World) (r : Int × Int) (e : Ending) (w' : World) : Prop := e = .returned (.tuple #[.int .i64 r.1, .int .i64 r.2]) ∧ Below w.heap.size w w'

set_option maxHeartbeats 4000000 in
set_option maxRecDepth 100000 in
theorem font_any (N0 : Nat) (w : World) (n2 : Int) (gA : Option Addr) (gc : Nat) (gl : List GlyD) (A4 A5 A6 A7 A8 : Option Addr) (m4 k4 m5 k5 m6 k6 m7 k7 m8 k8 : Nat) (fA : Option Addr) (fc : Nat) (fl : List (List (Int × Int))) (cA : Option Addr) (cn cc : Nat)
    (hg : RowAt (glyphR N0) 73 w w.heap.size gA gl) (hgl : gl.length ≤ 1000) (hgb : ∀ g ∈ gl, g.hint.length ≤ 1000) (hf : RowAt (codeR N0) 22 w w.heap.size fA fl) (hfb : ∀ f ∈ fl, f.length ≤ 1000) :
    Calls Try.prog 23 #[.agg #[.int .i64 n2, .slice gA gl.length gc, .slice A4 m4 k4, .slice A5 m5 k5, .slice A6 m6 k6, .slice A7 m7 k7, .slice A8 m8 k8, .slice fA fl.length fc, .slice cA cn cc]] w (FontPost w (Bd.font fl (gl.map (·.hint)))) := by
  obtain ⟨X, hX⟩ : ∃ X, X = w.alloc (.cells #[.int .i64 n2, .slice gA gl.length gc, .slice A4 m4 k4, .slice A5 m5 k5, .slice A6 m6 k6, .slice A7 m7 k7, .slice A8 m8 k8, .slice fA fl.length fc, .slice cA cn cc] 64) := ⟨_, rfl⟩
  have hXb : Below w.heap.size w X := by rw [hX]; exact (Below.refl _ _).alloc (Nat.le_refl _) _
  have hXz : X.heap.size = w.heap.size + 1 := by rw [hX]; simp
  have hfb0 : Blk X w.heap.size 64 #[.int .i64 n2, .slice gA gl.length gc, .slice A4 m4 k4, .slice A5 m5 k5, .slice A6 m6 k6, .slice A7 m7 k7, .slice A8 m8 k8, .slice fA fl.length fc, .slice cA cn cc] := by rw [hX]; exact Blk.new _ _ _
  have hgX := (hg.below hXb (Nat.le_refl _)).more hXb.size
  have hrows : RowsAt X X.heap.size fA fl := rowsR_at ((hf.below hXb (Nat.le_refl _)).more hXb.size)
  have hfu := funcs_any fA fc X.heap.size fl X hrows (Nat.le_refl _) (fun l hl => by have := hfb l hl; omega)
  have hfl := Bd.funcs_len fl
  have hfont : Bd.font fl (gl.map (·.hint)) = if (Bd.funcs fl).2.2 ≠ 0 then (-1, (Bd.funcs fl).2.2) else Bd.fontGo (Bd.funcs fl).1 0 (gl.map (·.hint)) := rfl
  generalize Bd.font fl (gl.map (·.hint)) = fo at *
  generalize Bd.funcs fl = fr at *
  obtain ⟨cs, fi, fe⟩ := fr
  simp only at hfl hfont
  have HFU := Lib.hid hfu
  have HG := Lib.hid hgX
  have HB := Lib.hid hfb0
  have HGB := Lib.hid hgb
  have HFO := Lib.hid hfont
  have HX := Lib.hid hX
  clear hfu hgX hfb0 hgb hfont hX hg hf hfb hrows
  go_enter Try.func23, Try.ntmps23
  go_wp2_with fail
  rw [← HX.out]
  refine HFU.out.mono ?_
  rintro e w1 ⟨Ac, ca, rfl, hrc, hb1⟩
  have hb1w := hXb.trans (hb1.mono hXb.size)
  have hc1 := (HB.out.below hb1 (by omega)).cell 1
  have hl1 := (HB.out.below hb1 (by omega)).lt
  simp only [List.getElem?_toArray, List.getElem?_cons_zero, List.getElem?_cons_succ] at hc1
  have HRC := Lib.hid hrc
  clear hrc
  simp only
  by_cases he : fe = 0
  · subst he
    have hfo := HFO.out
    rw [if_neg (by simp)] at hfo
    have h0 : ∃ k : Nat, k ≤ gl.length ∧ Value.int .i64 0 = .int .i64 k ∧ fo = Bd.fontGo cs k ((gl.map (·.hint)).drop k) ∧ Below w1.heap.size w1 w1 := ⟨0, by omega, rfl, by rw [hfo]; rfl, Below.refl _ _⟩
    have H0 := Lib.hid h0
    clear h0 hfo HFO
    go_wp2_with fail
    go_loopw [24] (fun i wr => ∃ k : Nat, k ≤ gl.length ∧ i = .int .i64 k ∧ fo = Bd.fontGo cs k ((gl.map (·.hint)).drop k) ∧ Below w1.heap.size w1 wr) (fun i _ => gl.length - (intOf i).toNat)
    case atStart => exact H0.out
    case round =>
      clear H0
      obtain ⟨k, hk, rfl, hfo, hbr⟩ := hrel
      have HFO := Lib.hid hfo
      have HBR := Lib.hid hbr
      clear hfo hbr
      by_cases hlt : (k : Int) < (gl.length : Int)
      · obtain ⟨g, hgk⟩ : ∃ g, gl[k]? = some g := ⟨_, List.getElem?_eq_getElem (by omega)⟩
        have hgw := (HG.out.below hb1 (Nat.le_refl _)).below HBR.out hb1.size
        obtain ⟨b, off, cs', hA, hbl, hrel', hcells⟩ := hgw.get hgk
        subst hA
        obtain ⟨Ap, np, kp, Ae, ne, ke, Aa, na, ka, An, nn, kn, Ad, nd, kd, A, c, rfl, hl1', hl2, hrow⟩ := glyphR_cells hrel'
        have hg54 := HGB.out g (List.mem_of_getElem? hgk)
        have z0 := hcells 0 _ rfl
        have z1 := hcells 1 _ rfl
        have z2 := hcells 2 _ rfl
        have z3 := hcells 3 _ rfl
        have z4 := hcells 4 _ rfl
        have z5 := hcells 5 _ rfl
        have z6 := hcells 6 _ rfl
        have z7 := hcells 7 _ rfl
        have z8 := hcells 8 _ rfl
        simp only [show (glyphR N0).size = 9 from rfl, Nat.add_zero] at z0 z1 z2 z3 z4 z5 z6 z7 z8
        have hsz1 := hb1.size
        have hszr := HBR.out.size
        have hbl2 : b < wr.heap.size := by omega
        have hstep := Bd.fontGo_at cs (gl.map (·.hint)) k g.hint (by rw [List.getElem?_map, hgk]; rfl)
        rw [← HFO.out] at hstep
        have HST := Lib.hid hstep
        have hcode := codeR_reads hrow
        obtain ⟨Y, hY⟩ : ∃ Y, Y = wr.alloc (.cells #[.string g.name, .int .i64 g.adv, .bool g.mark, .slice Ap np kp, .slice Ae ne ke, .slice Aa na ka, .slice An nn kn, .slice Ad nd kd, .slice A g.hint.length c] 73) := ⟨_, rfl⟩
        have hYb : Below wr.heap.size wr Y := by rw [hY]; exact (Below.refl _ _).alloc (Nat.le_refl _) _
        have hwh := whole_any A Ac c ca Y.heap.size g.hint cs Y ((hcode.below hYb (by omega)).more (by have := hYb.size; omega)) ((HRC.out.below (HBR.out.trans (hYb.mono hszr)) (Nat.le_refl _)).more (by have := hYb.size; omega)) (Nat.le_refl _) (by omega) (by omega)
        have HWH := Lib.hid hwh
        have HY := Lib.hid hY
        clear hwh hY hcode hrow hcells hrel' hgk hstep hgw hl1' hl2
        generalize Bd.whole g.hint cs = wo at *
        obtain ⟨⟨p0, p1, p2, p3⟩, pe⟩ := wo
        go_wp2_with fail
        rw [← HY.out]
        refine HWH.out.mono ?_
        rintro e w2 ⟨rfl, hb2⟩
        have hbr2 : Below w1.heap.size w1 w2 := HBR.out.trans ((hYb.mono hszr).trans (hb2.mono (by have := hYb.size; omega)))
        have HBR2 := Lib.hid hbr2
        simp only [costV]
        clear hbr2 z0 z1 z2 z3 z4 z5 z6 z7 z8
        by_cases hpe : pe = 0
        · subst hpe
          have hfo2 := HST.out
          rw [if_neg (by simp)] at hfo2
          have HFO2 := Lib.hid hfo2
          clear hfo2 HST HFO
          go_wp2_with fail
          refine ⟨⟨k + 1, by omega, by go_num, HFO2.out, HBR2.out.alloc HBR2.out.size _⟩, by simp [intOf]; omega⟩
        · have hpe2 : (pe != 0) = true := by simpa using hpe
          have hfo2 := HST.out
          rw [if_pos (by simpa using hpe)] at hfo2
          have HFO2 := Lib.hid hfo2
          have hend : Below w.heap.size w w2 := hb1w.trans (HBR2.out.mono hb1w.size)
          have HEND := Lib.hid hend
          clear hfo2 HST HFO hend
          go_wp2
          go_ret2
          refine ⟨by rw [HFO2.out]; rfl, HEND.out.alloc HEND.out.size _⟩
      · have hfo2 := HFO.out
        rw [Bd.fontGo_end cs _ k (by simp; omega)] at hfo2
        have HFO2 := Lib.hid hfo2
        have hend : Below w.heap.size w wr := hb1w.trans (HBR.out.mono hb1w.size)
        have HEND := Lib.hid hend
        clear hfo2 HFO hend
        go_wp2
        go_ret2
        exact ⟨by rw [HFO2.out]; rfl, HEND.out⟩
  · have he2 : (fe != 0) = true := by simpa using he
    have hfo := HFO.out
    rw [if_pos he] at hfo
    have HFO2 := Lib.hid hfo
    clear hfo HFO he
    go_wp2
    go_ret2
    exact ⟨by rw [HFO2.out]; rfl, hb1w⟩

set_option maxHeartbeats 4000000 in
set_option maxRecDepth 100000 in
theorem rfont_any (N0 : Nat) (w : World) (n2 : Int) (gA : Option Addr) (gc : Nat) (gl : List GlyD) (A4 A5 A6 A7 A8 : Option Addr) (m4 k4 m5 k5 m6 k6 m7 k7 m8 k8 : Nat) (fA : Option Addr) (fc : Nat) (fl : List (List (Int × Int))) (cA : Option Addr) (cn cc : Nat)
    (hg : RowAt (glyphR N0) 73 w w.heap.size gA gl) (hgl : gl.length ≤ 1000) (hgb : ∀ g ∈ gl, g.hint.length ≤ 1000) (hf : RowAt (codeR N0) 22 w w.heap.size fA fl) (hfb : ∀ f ∈ fl, f.length ≤ 1000) :
    Calls Try.prog 24 #[.agg #[.int .i64 n2, .slice gA gl.length gc, .slice A4 m4 k4, .slice A5 m5 k5, .slice A6 m6 k6, .slice A7 m7 k7, .slice A8 m8 k8, .slice fA fl.length fc, .slice cA cn cc]] w (FontPost w (Bd.font fl (gl.map (·.hint)))) := by
  obtain ⟨X, hX⟩ : ∃ X, X = w.alloc (.cells #[.int .i64 n2, .slice gA gl.length gc, .slice A4 m4 k4, .slice A5 m5 k5, .slice A6 m6 k6, .slice A7 m7 k7, .slice A8 m8 k8, .slice fA fl.length fc, .slice cA cn cc] 64) := ⟨_, rfl⟩
  have hXb : Below w.heap.size w X := by rw [hX]; exact (Below.refl _ _).alloc (Nat.le_refl _) _
  have hXz : X.heap.size = w.heap.size + 1 := by rw [hX]; simp
  have hfb0 : Blk X w.heap.size 64 #[.int .i64 n2, .slice gA gl.length gc, .slice A4 m4 k4, .slice A5 m5 k5, .slice A6 m6 k6, .slice A7 m7 k7, .slice A8 m8 k8, .slice fA fl.length fc, .slice cA cn cc] := by rw [hX]; exact Blk.new _ _ _
  have hgX := (hg.below hXb (Nat.le_refl _)).more hXb.size
  have hrows : RowsAt X X.heap.size fA fl := rowsR_at ((hf.below hXb (Nat.le_refl _)).more hXb.size)
  have hfu := rfuncs_any fA fc X.heap.size fl X hrows (Nat.le_refl _) (fun l hl => by have := hfb l hl; omega)
  have hfl := Bd.funcs_len fl
  have hpro := fun l => Bd.program_ok fl l
  have hrp := fun A Am c cm B l W hR hl hB hn => rprogram_any A Am c cm B (.slice none 0 0) 0 fl l W ⟨_, _, _, rfl⟩ hR hl hB (fun l hl => by have := hfb l hl; omega) hn
  have hfont : Bd.font fl (gl.map (·.hint)) = if (Bd.funcs fl).2.2 ≠ 0 then (-1, (Bd.funcs fl).2.2) else Bd.fontGo (Bd.funcs fl).1 0 (gl.map (·.hint)) := rfl
  generalize Bd.font fl (gl.map (·.hint)) = fo at *
  have HRP := Lib.hid hrp
  clear hrp
  generalize Bd.funcs fl = fr at *
  obtain ⟨cs, fi, fe⟩ := fr
  simp only at hfl hfont hpro
  have HPRO := Lib.hid hpro
  have HROWS := Lib.hid hrows
  clear hpro
  have HFU := Lib.hid hfu
  have HG := Lib.hid hgX
  have HB := Lib.hid hfb0
  have HGB := Lib.hid hgb
  have HFO := Lib.hid hfont
  have HX := Lib.hid hX
  clear hfu hgX hfb0 hgb hfont hX hg hf hfb hrows
  go_enter Try.func24, Try.ntmps24
  go_wp2_with fail
  rw [← HX.out]
  refine HFU.out.mono ?_
  rintro e w1 ⟨Ac, ca, rfl, hrc, hb1⟩
  have hb1w := hXb.trans (hb1.mono hXb.size)
  have hc1 := (HB.out.below hb1 (by omega)).cell 1
  have hl1 := (HB.out.below hb1 (by omega)).lt
  simp only [List.getElem?_toArray, List.getElem?_cons_zero, List.getElem?_cons_succ] at hc1
  have HRC := Lib.hid hrc
  clear hrc
  simp only
  by_cases he : fe = 0
  · subst he
    have hfo := HFO.out
    rw [if_neg (by simp)] at hfo
    have h0 : ∃ k : Nat, k ≤ gl.length ∧ Value.int .i64 0 = .int .i64 k ∧ fo = Bd.fontGo cs k ((gl.map (·.hint)).drop k) ∧ Below w1.heap.size w1 w1 := ⟨0, by omega, rfl, by rw [hfo]; rfl, Below.refl _ _⟩
    have H0 := Lib.hid h0
    clear h0 hfo HFO
    go_wp2_with fail
    go_loopw [7] (fun i wr => ∃ k : Nat, k ≤ gl.length ∧ i = .int .i64 k ∧ fo = Bd.fontGo cs k ((gl.map (·.hint)).drop k) ∧ Below w1.heap.size w1 wr) (fun i _ => gl.length - (intOf i).toNat)
    case atStart => exact H0.out
    case round =>
      clear H0
      obtain ⟨k, hk, rfl, hfo, hbr⟩ := hrel
      have HFO := Lib.hid hfo
      have HBR := Lib.hid hbr
      clear hfo hbr
      have hq1 := (HB.out.below (hb1.trans (HBR.out.mono hb1.size)) (by omega)).cell 1
      have hq2 := (HB.out.below (hb1.trans (HBR.out.mono hb1.size)) (by omega)).lt
      simp only [List.getElem?_toArray, List.getElem?_cons_zero, List.getElem?_cons_succ] at hq1
      by_cases hlt : (k : Int) < (gl.length : Int)
      · obtain ⟨g, hgk⟩ : ∃ g, gl[k]? = some g := ⟨_, List.getElem?_eq_getElem (by omega)⟩
        have hgw := (HG.out.below hb1 (Nat.le_refl _)).below HBR.out hb1.size
        obtain ⟨b, off, cs', hA, hbl, hrel', hcells⟩ := hgw.get hgk
        subst hA
        obtain ⟨Ap, np, kp, Ae, ne, ke, Aa, na, ka, An, nn, kn, Ad, nd, kd, A, c, rfl, hl1', hl2, hrow⟩ := glyphR_cells hrel'
        have hg54 := HGB.out g (List.mem_of_getElem? hgk)
        have z0 := hcells 0 _ rfl
        have z1 := hcells 1 _ rfl
        have z2 := hcells 2 _ rfl
        have z3 := hcells 3 _ rfl
        have z4 := hcells 4 _ rfl
        have z5 := hcells 5 _ rfl
        have z6 := hcells 6 _ rfl
        have z7 := hcells 7 _ rfl
        have z8 := hcells 8 _ rfl
        simp only [show (glyphR N0).size = 9 from rfl, Nat.add_zero] at z0 z1 z2 z3 z4 z5 z6 z7 z8
        have hsz1 := hb1.size
        have hszr := HBR.out.size
        have hbl2 : b < wr.heap.size := by omega
        have hstep := Bd.fontGo_at cs (gl.map (·.hint)) k g.hint (by rw [List.getElem?_map, hgk]; rfl)
        rw [← HFO.out, ← HPRO.out g.hint (by first | trivial | rfl)] at hstep
        have HST := Lib.hid hstep
        have hcode := codeR_reads hrow
        have hbw := hb1.trans (HBR.out.mono hb1.size)
        have hf1 := (HB.out.below hbw (by omega)).cell 1
        have hf7 := (HB.out.below hbw (by omega)).cell 7
        have hfl9 := (HB.out.below hbw (by omega)).lt
        simp only [List.getElem?_toArray, List.getElem?_cons_zero, List.getElem?_cons_succ] at hf1 hf7
        have hRw := HROWS.out.below hbw (Nat.le_refl _)
        have HPG := Lib.hid (fun W (hb : Below wr.heap.size wr W) => HRP.out fA A fc c W.heap.size g.hint W ((hRw.below hb (by omega)).more (by have := hb.size; omega)) ((hcode.below hb (by omega)).more (by have := hb.size; omega)) (Nat.le_refl _) (by omega))
        clear hcode hrow hcells hrel' hgk hstep hgw hl1' hl2 z0 z1 z2 z3 z4 z5 z6 z7 hRw
        generalize Bd.program fl g.hint = wo at *
        obtain ⟨⟨p0, p1, p2, p3⟩, pe⟩ := wo
        go_upto_region 7 with (fail)
        go_cut [9] (fun v wx => v = .int .i64 pe ∧ Below w1.heap.size w1 wx)
        case first =>
          have hS : (fun w' : World => w'.cell? ⟨w.heap.size, 7, none⟩ = some (.slice fA fl.length fc) ∧ w'.cell? ⟨w.heap.size, 1, none⟩ = some (.slice (some ⟨b, off, none⟩) gl.length gc) ∧ w'.cell? ⟨b, off + k * 9 + 8, none⟩ = some (.slice A g.hint.length c)) wr.drew := ⟨hf7, hf1, z8⟩
          have hd0 : Below wr.heap.size wr wr.drew := (Below.refl _ _).drew
          clear hf1 hf7 z8
          go_wp2_with fail
          refine wp_region_ord (fun i => !([9, 13, 14] : List Nat).contains i) (fun i => ([1, 3, 7] : List Nat).contains i) (fun i => ([9, 13] : List Nat).contains i) (.one 0 (.one 1 (.one 2 (.one 3 (.one 4 (.one 5 (.one 6 (.one 7 (.one 8 (.two 9 (Ord.of [10, 11, 12, 13, 14, 15] .nil) 13 (Ord.of [9, 10, 11, 12, 14, 15] .nil))))))))))) (fun w' : World => w'.cell? ⟨w.heap.size, 7, none⟩ = some (.slice fA fl.length fc) ∧ w'.cell? ⟨w.heap.size, 1, none⟩ = some (.slice (some ⟨b, off, none⟩) gl.length gc) ∧ w'.cell? ⟨b, off + k * 9 + 8, none⟩ = some (.slice A g.hint.length c)) (by kernel_rfl) (by kernel_rfl) (by kernel_rfl) (by kernel_rfl) ?_
          refine wpOrd_pure (v := _) rfl rfl rfl (by kernel_rfl) (fun _ _ _ h => h) (fun wq => by first | (go_simp; done) | (go_simp; rfl)) ?_
          refine wpOrd_load (v := _) rfl rfl (by kernel_rfl) (fun _ _ _ h => h) hS rfl (fun wq hq => by obtain ⟨hq1, hq2, hq3⟩ := hq; first | (go_simp; done) | (go_simp; rfl)) ?_
          refine wpOrd_pure (v := _) rfl rfl rfl (by kernel_rfl) (fun _ _ _ h => h) (fun wq => by first | (go_simp; done) | (go_simp; rfl)) ?_
          refine wpOrd_load (v := _) rfl rfl (by kernel_rfl) (fun _ _ _ h => h) hS rfl (fun wq hq => by obtain ⟨hq1, hq2, hq3⟩ := hq; first | (go_simp; done) | (go_simp; rfl)) ?_
          refine wpOrd_pure (v := _) rfl rfl rfl (by kernel_rfl) (fun _ _ _ h => h) (fun wq => by first | (go_simp; done) | (go_simp; rfl)) ?_
          refine wpOrd_pure (v := _) rfl rfl rfl (by kernel_rfl) (fun _ _ _ h => h) (fun wq => by first | (go_simp; done) | (go_simp; rfl)) ?_
          refine wpOrd_pure (v := _) rfl rfl rfl (by kernel_rfl) (fun _ _ _ h => h) (fun wq => by first | (go_simp; done) | (go_simp; rfl)) ?_
          refine wpOrd_load (v := _) rfl rfl (by kernel_rfl) (fun _ _ _ h => h) hS rfl (fun wq hq => by obtain ⟨hq1, hq2, hq3⟩ := hq; first | (go_simp; done) | (go_simp; rfl)) ?_
          refine wpOrd_pure (v := _) rfl rfl rfl (by kernel_rfl) (fun _ _ _ h => h) (fun wq => by first | (go_simp; done) | (go_simp; rfl)) ?_
          refine wpOrd_two ?_ ?_ rfl rfl
          · refine wpSeq_heavy rfl rfl (fun K hK => ?_); go_simp
            refine (HPG.out _ hd0).mono ?_
            rintro e w2 ⟨rfl, hb2⟩
            have hbr2 : Below w1.heap.size w1 w2 := HBR.out.trans ((hd0.mono hszr).trans (hb2.mono hszr))
            have HBR2 := Lib.hid hbr2
            simp only [costV]
            have hsd : wr.drew.heap.size = wr.heap.size := rfl
            refine hK _ _ (fun _ => ⟨by rw [hb2.cell (by simp only [hsd]; omega)]; exact hS.1, by rw [hb2.cell (by simp only [hsd]; omega)]; exact hS.2.1, by rw [hb2.cell (by simp only [hsd]; omega)]; exact hS.2.2⟩) ?_
            clear hK K
            refine wpSeq_pure (v := _) rfl rfl rfl (by kernel_rfl) (fun _ _ _ h => h) (fun wq => by first | (go_simp; done) | (go_simp; rfl)) ?_
            refine wpSeq_pure (v := _) rfl rfl rfl (by kernel_rfl) (fun _ _ _ h => h) (fun wq => by first | (go_simp; done) | (go_simp; rfl)) ?_
            refine wpSeq_pure (v := _) rfl rfl rfl (by kernel_rfl) (fun _ _ _ h => h) (fun wq => by first | (go_simp; done) | (go_simp; rfl)) ?_
            refine wpSeq_heavy rfl rfl (fun K hK => ?_); go_simp
            refine hK _ _ (fun _ => ⟨by rw [World.cell?_alloc_lt _ _ _ (by have := hb2.size; simp only [World.size_drew] at this ⊢; omega), hb2.cell (by simp only [World.size_drew]; omega)]; exact hS.1, by rw [World.cell?_alloc_lt _ _ _ (by have := hb2.size; simp only [World.size_drew] at this ⊢; omega), hb2.cell (by simp only [World.size_drew]; omega)]; exact hS.2.1, by rw [World.cell?_alloc_lt _ _ _ (by have := hb2.size; simp only [World.size_drew] at this ⊢; omega), hb2.cell (by simp only [World.size_drew]; omega)]; exact hS.2.2⟩) ?_
            clear hK K
            refine wpSeq_heavy rfl rfl (fun K hK => ?_); go_simp
            refine hK _ _ (fun h => by cases h) ?_; clear hK K
            refine wpSeq_pure (v := _) rfl rfl rfl (by kernel_rfl) (fun _ _ _ h => h) (fun wq => by first | (go_simp; done) | (go_simp; rfl)) ?_
            refine wpSeq_end ?_
            go_wp2_with fail
            go_meet
            exact ⟨rfl, HBR2.out.alloc HBR2.out.size _⟩
          · refine wpSeq_heavy rfl rfl (fun K hK => ?_); go_simp
            have hd1 : Below wr.heap.size wr (wr.alloc (.cells #[.int .i64 0, .int .i64 0, .int .i64 0, .int .i64 0] 28)).drew := ((Below.refl wr.heap.size wr).alloc (Nat.le_refl _) _).drew
            have hbx : Blk (wr.alloc (.cells #[.int .i64 0, .int .i64 0, .int .i64 0, .int .i64 0] 28)).drew wr.heap.size 28 #[.int .i64 0, .int .i64 0, .int .i64 0, .int .i64 0] := Blk.new wr _ _
            refine hK _ _ (fun _ => ⟨by rw [hd1.cell (by omega)]; exact hS.1, by rw [hd1.cell (by omega)]; exact hS.2.1, by rw [hd1.cell (by omega)]; exact hS.2.2⟩) ?_
            clear hK K
            refine wpSeq_heavy rfl rfl (fun K hK => ?_); go_simp
            refine (HPG.out _ hd1).mono ?_
            rintro e w2 ⟨rfl, hb2⟩
            have hsz2 := hd1.size
            have hbr2 : Below w1.heap.size w1 w2 := HBR.out.trans ((hd1.mono hszr).trans (hb2.mono (by omega)))
            have hbx2 := hbx.below hb2 hbx.lt
            have b0 := hbx2.cell
            have b1 := hbx2.frozen
            have b2 := hbx2.lt
            have HBR2 := Lib.hid hbr2
            simp only [costV]
            refine hK _ _ (fun _ => ⟨by rw [hb2.cell (by simp only; omega), hd1.cell (by simp only; omega)]; exact hS.1, by rw [hb2.cell (by simp only; omega), hd1.cell (by simp only; omega)]; exact hS.2.1, by rw [hb2.cell (by simp only; omega), hd1.cell (by simp only; omega)]; exact hS.2.2⟩) ?_
            clear hK K
            refine wpSeq_pure (v := _) rfl rfl rfl (by kernel_rfl) (fun _ _ _ h => h) (fun wq => by first | (go_simp; done) | (go_simp; rfl)) ?_
            refine wpSeq_pure (v := _) rfl rfl rfl (by kernel_rfl) (fun _ _ _ h => h) (fun wq => by first | (go_simp; done) | (go_simp; rfl)) ?_
            refine wpSeq_pure (v := _) rfl rfl rfl (by kernel_rfl) (fun _ _ _ h => h) (fun wq => by first | (go_simp; done) | (go_simp; rfl)) ?_
            refine wpSeq_heavy rfl rfl (fun K hK => ?_); go_simp
            refine hK _ _ (fun h => by cases h) ?_; clear hK K
            refine wpSeq_pure (v := _) rfl rfl rfl (by kernel_rfl) (fun _ _ _ h => h) (fun wq => by first | (go_simp; done) | (go_simp; rfl)) ?_
            refine wpSeq_end ?_
            go_wp2_with fail
            go_meet
            exact ⟨rfl, (((HBR2.out.setCell (p := ⟨wr.heap.size, 0, none⟩) hszr _).setCell (p := ⟨wr.heap.size, 1, none⟩) hszr _).setCell (p := ⟨wr.heap.size, 2, none⟩) hszr _).setCell (p := ⟨wr.heap.size, 3, none⟩) hszr _⟩
        case rest =>
          obtain ⟨rfl, hbr2⟩ := hcut
          have HBR2 := Lib.hid hbr2
          clear hbr2 hf1 hf7 z8
          by_cases hpe : pe = 0
          · subst hpe
            have hfo2 := HST.out
            rw [if_neg (by simp)] at hfo2
            have HFO2 := Lib.hid hfo2
            clear hfo2 HST HFO
            go_wp2_with fail
            refine ⟨⟨k + 1, by omega, by go_num, HFO2.out, HBR2.out⟩, by simp [intOf]; omega⟩
          · have hpe2 : (pe != 0) = true := by simpa using hpe
            have hfo2 := HST.out
            rw [if_pos (by simpa using hpe)] at hfo2
            have HFO2 := Lib.hid hfo2
            have hend : Below w.heap.size w wc := hb1w.trans (HBR2.out.mono hb1w.size)
            have HEND := Lib.hid hend
            clear hfo2 HST HFO hend
            go_wp2
            go_ret2
            exact ⟨by rw [HFO2.out]; rfl, HEND.out⟩
      · have hfo2 := HFO.out
        rw [Bd.fontGo_end cs _ k (by simp; omega)] at hfo2
        have HFO2 := Lib.hid hfo2
        have hend : Below w.heap.size w wr := hb1w.trans (HBR.out.mono hb1w.size)
        have HEND := Lib.hid hend
        clear hfo2 HFO hend
        go_wp2
        go_ret2
        exact ⟨by rw [HFO2.out]; rfl, HEND.out⟩
  · have he2 : (fe != 0) = true := by simpa using he
    have hfo := HFO.out
    rw [if_pos he] at hfo
    have HFO2 := Lib.hid hfo
    clear hfo HFO he
    go_wp2
    go_ret2
    exact ⟨by rw [HFO2.out]; rfl, hb1w⟩

theorem step_pushAll {P : Program} (w : World) {ops : Array Oper} {o : Oper} {a : Act} {K : Act → World → Prop} {Q : Exit → Act → World → Prop} {E : Prop} (hgd : o.guard = none) (s x : Operand) (t : TypeId)
    (ho : o.op = .call { callee := .builtin .append, args := #[s, x], argTypes := #[t, t] }) {N0 : Nat} {α : Type} (R : Repr N0 α)
    (base : Nat) (e : TypeId) (i : TypeInfo) (z : Value) (bytes : Nat) (ht : P.underlying t = some (.slice e)) (hi : P.info? e = some i) (hz : i.zero = some z)
    (hsize : i.size = R.size) (hby : i.bytes = bytes) (hzs : z.cells.size = R.size) (hsz : 0 < R.size) (hno : e ∉ R.tys) (hN : N0 ≤ base)
    (v : Value) (l : List α) (hs : a.eval s = v) (hown : OwnAt R e base w v l)
    (A : Option Addr) (m c : Nat) (l2 : List α) (hm : l2.length = m) (hx : a.eval x = .slice A m c) (t2 : TypeId) (hrow : RowAt R t2 w w.heap.size A l2)
    (h63 : l.length + m ≤ maxLen) (hbytes : (l.length + m) * bytes ≤ 140737488355328) (hbase : base ≤ w.heap.size)
    (h : ∀ A' c' w', OwnAt R e base w' (.slice A' (l.length + m) c') (l ++ l2) → w.grownBy w' v.ownBlock → K (a.put o.dst (.slice A' (l.length + m) c')) w') :
    if Region.wanted o (yielded ops a.tmps) = true then Oper.wp P o a w K Q else E := by
  have hw : Region.wanted o (yielded ops a.tmps) = true := by simp [Region.wanted, hgd]
  rw [if_pos hw]
  subst hm
  obtain ⟨css, hw', h1, h2⟩ := hown
  obtain ⟨css2, k1, k2, k3⟩ := hrow.flat
  exact wp_append_any w s x t ho base e i z R.size bytes ht hi hz hsize hby hzs hsz v l.length css.flatten hs hw' w.heap.size A l2.length c css2.flatten hx k3 (RowAt.one k1 k2) h63 hbytes hbase
    fun v' w' h3 h4 _ => by
      have h6 := OwnAt.pushAll hw' h1 h2 k1 k2 hno hN h3 h4
      obtain ⟨A', c', e', _⟩ := h6.form
      rw [List.length_append] at e'
      subst e'
      exact h A' c' w' h6 h4
theorem glyphR_hint {N0 : Nat} {w : World} {B : Nat} {g : GlyD} {cs : List Value} (h : (glyphR N0).rel w B g cs) {A : Option Addr} {c : Nat} {l : List (Int × Int)} (h1 : l.length ≤ c) (h2 : c ≤ maxLen) (h3 : RowAt (insR N0) 25 w B A l) : (glyphR N0).rel w B {g with hint := l} (cs.set 8 (.slice A l.length c)) := by
  obtain ⟨_, _, rfl, rfl, _, _, rfl, ⟨rfl, b1⟩, _, _, rfl, rfl, _, _, rfl, ⟨_, _, rfl, ⟨A1, k1, rfl, b2⟩, ⟨A2, k2, rfl, b3⟩⟩, _, _, rfl, ⟨A3, k3, rfl, b4⟩, _, _, rfl, ⟨A4, k4, rfl, b5⟩, _, _, rfl, ⟨A5, k5, rfl, b6⟩, ⟨A6, c6, rfl, b7⟩⟩ := h
  exact ⟨[_], [_, _, _, _, _, _, _, _], rfl, rfl, [_], [_, _, _, _, _, _, _], rfl, ⟨rfl, b1⟩, [_], [_, _, _, _, _, _], rfl, rfl, [_, _], [_, _, _, _], rfl, ⟨[_], [_], rfl, ⟨A1, k1, rfl, b2⟩, ⟨A2, k2, rfl, b3⟩⟩, [_], [_, _, _], rfl, ⟨A3, k3, rfl, b4⟩, [_], [_, _], rfl, ⟨A4, k4, rfl, b5⟩, [_], [_], rfl, ⟨A5, k5, rfl, b6⟩, ⟨A, c, rfl, h1, h2, h3⟩⟩
end Go.Proofs.Ytgklchhgpnoliaa

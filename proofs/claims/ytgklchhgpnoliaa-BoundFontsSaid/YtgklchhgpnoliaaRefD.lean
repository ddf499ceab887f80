/- fleuronref19.Funcs, Program, Same; fleuronlaw19.few, many. -/
import Derived.Test.YtgklchhgpnoliaaRefC
import Derived.Test.YtgklchhgpnoliaaReprs
import Derived.Test.YtgklchhgpnoliaaBoundSpecC
namespace Go.Proofs.Ytgklchhgpnoliaa
open Go.RowKit

set_option maxHeartbeats 400000 in
theorem rfuncs_many (A : Option Addr) (n c : Nat) (w : World) (hn : 20 < n) :
    Calls Try.prog 16 #[.slice A n c] w fun e w' => e = .returned (.tuple #[.slice none 0 0, .int .i64 20, .int .i64 2]) ∧ w = w' := by
  have h : (20 : Int) < n := by omega
  go_enter Try.func16, Try.ntmps16
  go_wp2
  go_ret3
  exact ⟨rfl, rfl⟩

def FInv (w : World) (ll : List (List (Int × Int))) (v i : Value) (wr : World) : Prop :=
  ∃ (k : Nat) (cs : List Bd.Cost) (A : Option Addr) (c : Nat), k ≤ ll.length ∧ i = .int .i64 k ∧ cs.length = k ∧ v = .slice A k c ∧ OwnAt (costR w.heap.size) 28 w.heap.size wr v cs ∧ Bd.funcsGo (ll.drop k) k cs = Bd.funcsGo ll 0 [] ∧ Below w.heap.size w wr

set_option maxHeartbeats 1000000 in
theorem rfuncs_few (A : Option Addr) (c B : Nat) (ll : List (List (Int × Int))) (w : World) (hR : RowsAt w B A ll) (hB : B ≤ w.heap.size) (hn : ll.length ≤ 20) (hlen : ∀ l ∈ ll, l.length ≤ 1000000000000) :
    Calls Try.prog 16 #[.slice A ll.length c] w (FuncsPost w (Bd.funcsGo ll 0 [])) := by
  obtain ⟨i0, hi, hz0, hz1, hz2⟩ := info_parts cost_info
  obtain ⟨n, hnn⟩ : ∃ n, n = ll.length := ⟨_, rfl⟩
  rw [← hnn] at hn ⊢
  have HN := Lib.hid hnn
  have HR := Lib.hid hR
  have HLEN := Lib.hid hlen
  have h20 : ¬ (20 : Int) < n := by omega
  clear hnn hR hlen
  go_enter Try.func16, Try.ntmps16
  go_wp2_with fail
  go_loopw [5, 6] (fun v i wr => FInv w ll v i wr) (fun _ i _ => n - (intOf i).toNat)
  case atStart => exact ⟨0, [], _, _, by omega, rfl, rfl, rfl, OwnAt.empty (costR w.heap.size) (Blk.new _ _ _) (Nat.le_refl _), by simp, (Below.refl _ _).alloc (Nat.le_refl _) _⟩
  case round =>
    obtain ⟨k, cs, A', c', hk, rfl, hcl, rfl, hown, hgo, hb⟩ := hrel
    rw [← HN.out] at hk
    obtain ⟨A2, c2, e2, _, _, hrow⟩ := hown.form
    injection e2 with e3 e4 e5
    subst e3 e5
    have HRD := Lib.hid (costR_reads hrow)
    have HOWN := Lib.hid hown
    have HGO := Lib.hid hgo
    have HCL := Lib.hid hcl
    have hsz := hb.size
    have hck : cs.length ≤ k ∧ k ≤ cs.length := by omega
    clear hown hgo hcl e4 hrow
    by_cases hlt : k < n
    · obtain ⟨l, hl⟩ : ∃ l, ll[k]? = some l := ⟨_, List.getElem?_eq_getElem (by have := HN.out; omega)⟩
      have hRw := HR.out.below hb hB
      obtain ⟨vs, hvs, hin⟩ := hRw
      obtain ⟨v, hv, Al, cl, rfl, hlr⟩ := hin k l hl
      obtain ⟨b, off, rfl, hbB, hcells⟩ := hvs.2 (by have := HN.out; omega)
      have d0 := hcells _ _ hv
      have hdrop : ll.drop k = l :: ll.drop (k + 1) := by
        have hjl : k < ll.length := by have := HN.out; omega
        rw [List.drop_eq_getElem_cons hjl]
        rw [List.getElem?_eq_getElem hjl] at hl
        rw [Option.some.inj hl]
      have HDROP := Lib.hid hdrop
      have hll := HLEN.out l (List.mem_of_getElem? hl)
      have HLR := Lib.hid hlr
      have HRC := Lib.hid (rcode_any Al A' l.length cl k c' wr.heap.size cs l wr (by rw [← HCL.out]; exact HRD.out) (Nat.le_refl _) HCL.out.symm (by omega) hll rfl (HLR.out.more (by omega)))
      clear hcells hin hvs hv hl hdrop hlr hll
      go_wp2_with fail
      refine HRC.out.mono ?_
      rintro e w1 ⟨rfl, hb1⟩
      simp only [costV]
      have hb2 : Below w.heap.size w w1 := hb.trans (hb1.mono hsz)
      by_cases hr : (Bd.code l cs).2.2 = 0
      · have hgo2 : Bd.funcsGo (ll.drop (k + 1)) ((k + 1 : Nat) : Int) (cs ++ [(Bd.code l cs).1]) = Bd.funcsGo ll 0 [] := by
          have h0 := HGO.out
          rw [HDROP.out, Bd.funcsGo, if_neg (by rw [hr]; simp)] at h0
          rw [← h0, show ((k + 1 : Nat) : Int) = (k : Int) + 1 by omega]
        have HGO2 := Lib.hid hgo2
        rw [hr]
        have hown1 := HOWN.out.below hb1 (Nat.le_refl _)
        have HOWN1 := Lib.hid hown1
        have hsm := Bd.code_small l cs
        generalize (Bd.code l cs).1 = cc at *
        obtain ⟨c0, c1, c2, c3⟩ := cc
        have HI4 : Hid (I64 c0 ∧ I64 c1 ∧ I64 c2 ∧ I64 c3) := by unfold Bd.Small at hsm; unfold I64; exact ⟨by simp only at hsm; omega, by simp only at hsm; omega, by simp only at hsm; omega, by simp only at hsm; omega⟩
        clear hr hgo2 HDROP HGO hown1 d0 HRC hsm
        have z1 := hb1.size
        obtain ⟨W, hW⟩ : ∃ W, W = (w1.alloc (.cells #[.int .i64 c0, .int .i64 c1, .int .i64 c2, .int .i64 c3] 28)).alloc (.cells #[.int .i64 c0, .int .i64 c1, .int .i64 c2, .int .i64 c3] 28) := ⟨_, rfl⟩
        have hWz : W.heap.size = w1.heap.size + 1 + 1 := by rw [hW]; simp
        have hWo : OwnAt (costR w.heap.size) 28 w.heap.size W (.slice A' k c') cs := by rw [hW]; exact HOWN1.out.below (((Below.refl _ _).alloc (Nat.le_refl _) _).alloc (by simp) _) (Nat.le_refl _)
        have hWb : Blk W (w1.heap.size + 1) 28 #[.int .i64 c0, .int .i64 c1, .int .i64 c2, .int .i64 c3] := by rw [hW]; exact Blk.new_at _ _ _ (by simp)
        have hWw : Below w.heap.size w W := by rw [hW]; exact (hb2.alloc (by omega) _).alloc (by simp; omega) _
        have HW := Lib.hid hW
        have HWO := Lib.hid hWo
        have HWB := Lib.hid hWb
        clear hW hWo hWb
        go_wp2_with (at_builtin; rw [← HW.out]; refine wpList_push _ rfl (.tmp 34) (.tmp 36) _ rfl (costR w.heap.size) w.heap.size 28 i0 _ 32 Try.underlying36 hi hz0 hz1 hz2 rfl (show 0 < 4 by decide) (by simp [costR, Repr.map, Repr.pair, Repr.int]) (Nat.le_refl _) (.slice A' k c') cs rfl HWO.out (w1.heap.size + 1) [.int .i64 c0, .int .i64 c1, .int .i64 c2, .int .i64 c3] ⟨c0, c1, c2, c3⟩ rfl HWB.out (costR_mk _ _ _ _ _ _ _ HI4.out.1 HI4.out.2.1 HI4.out.2.2.1 HI4.out.2.2.2) (by simp [maxLen]; omega) (by omega) (by omega) ?_; intro A3 c3' w2 hown3 hg3; rw [HCL.out] at hown3 ⊢)
        refine ⟨⟨k + 1, cs ++ [⟨c0, c1, c2, c3⟩], A3, c3', by rw [← HN.out]; omega, by go_num, by simp; omega, rfl, hown3, HGO2.out, below_own HWO.out hWw hg3 (by omega) (Nat.le_refl _)⟩, by simp [intOf]; omega⟩
      · have hgo2 : Bd.funcsGo ll 0 [] = ([], (k : Int), (Bd.code l cs).2.2) := by
          rw [← HGO.out, HDROP.out, Bd.funcsGo, if_pos hr]
        have HGO2 := Lib.hid hgo2
        have hrb : ((Bd.code l cs).2.2 != 0) = true := by simpa using hr
        generalize (Bd.code l cs).2.2 = rr at *
        generalize (Bd.code l cs).2.1 = ra at *
        generalize (Bd.code l cs).1 = cc at *
        obtain ⟨c0, c1, c2, c3⟩ := cc
        clear hr hgo2 HDROP HGO d0 HRC
        go_wp2
        go_ret3
        refine ⟨none, 0, by rw [HGO2.out]; rfl, ?_, hb2.alloc (by have := hb1.size; omega) _⟩
        rw [HGO2.out]
        exact Reads.none_
    · have hkn : k = n := by omega
      have hgo2 : Bd.funcsGo ll 0 [] = (cs, 0, 0) := by
        have h0 := HGO.out
        rw [List.drop_eq_nil_of_le (by have := HN.out; omega), Bd.funcsGo] at h0
        exact h0.symm
      have HGO2 := Lib.hid hgo2
      have HKN := Lib.hid hkn
      clear hkn hgo2 HGO
      go_wp2
      go_ret3
      refine ⟨A', c', by rw [HGO2.out, ← HCL.out]; rfl, ?_, hb⟩
      rw [HGO2.out]
      exact HRD.out

theorem rfuncs_any (A : Option Addr) (c B : Nat) (ll : List (List (Int × Int))) (w : World) (hR : RowsAt w B A ll) (hB : B ≤ w.heap.size) (hlen : ∀ l ∈ ll, l.length ≤ 1000000000000) :
    Calls Try.prog 16 #[.slice A ll.length c] w (FuncsPost w (Bd.funcs ll)) := by
  by_cases h : ll.length > 20
  · have e : Bd.funcs ll = ([], 20, 2) := by unfold Bd.funcs; rw [if_pos h]
    rw [e]
    refine (rfuncs_many A ll.length c w h).mono ?_
    rintro e w' ⟨rfl, rfl⟩
    exact ⟨none, 0, rfl, Reads.none_, Below.refl _ _⟩
  · have e : Bd.funcs ll = Bd.funcsGo ll 0 [] := by unfold Bd.funcs; rw [if_neg h]
    rw [e]
    exact rfuncs_few A c B ll w hR hB (by omega) hlen

set_option maxHeartbeats 1000000 in
theorem rprogram_any (A Am : Option Addr) (c cm B : Nat) (cvt : Value) (size : Int) (ll : List (List (Int × Int))) (l : List (Int × Int)) (w : World) (hcv : ∃ a n k, cvt = .slice a n k) (hR : RowsAt w B A ll) (hl : Reads w B 2 Am l.length (insCells l)) (hB : B ≤ w.heap.size) (hlen : ∀ l ∈ ll, l.length ≤ 1000000000000) (hn : l.length ≤ 1000000000000) :
    Calls Try.prog 18 #[.agg #[.slice A ll.length c, .slice Am l.length cm, cvt, .int .i64 size]] w (WholePost w (Bd.program ll l)) := by
  obtain ⟨ca, cn, ck, rfl⟩ := hcv
  have hfl := Bd.funcs_len ll
  obtain ⟨r, hr⟩ : ∃ r, r = Bd.funcs ll := ⟨_, rfl⟩
  have hpr : Bd.program ll l = if r.2.2 ≠ 0 then (⟨0, 0, 0, 0⟩, r.2.2) else Bd.whole l r.1 := by unfold Bd.program; rw [hr]
  rw [← hr] at hfl
  have HFU := Lib.hid (fun W h => rfuncs_any A c B ll W h)
  rw [← hr] at HFU
  obtain ⟨cs, ra, rr⟩ := r
  simp only at hpr hfl
  have hwh : Bd.whole l cs = if (Bd.code l cs).2.2 ≠ 0 then (⟨0, 0, 0, 0⟩, (Bd.code l cs).2.2) else if (Bd.code l cs).1.need > 0 then (⟨0, 0, 0, 0⟩, 51) else ((Bd.code l cs).1, 0) := rfl
  have HRC := Lib.hid (fun Af cf W h1 h2 h3 => rcode_any Am Af l.length cm cs.length cf W.heap.size cs l W h1 (Nat.le_refl _) rfl h2 hn rfl h3)
  obtain ⟨k, hk⟩ : ∃ k, k = Bd.code l cs := ⟨_, rfl⟩
  rw [← hk] at hwh HRC
  have HPR := Lib.hid hpr
  have HWH := Lib.hid hwh
  have HR := Lib.hid hR
  have HL := Lib.hid hl
  have HLEN := Lib.hid hlen
  clear hpr hr hR hl hlen hwh hk hn
  obtain ⟨⟨k0, k1, k2, k3⟩, ka, ke⟩ := k
  generalize hln : l.length = n at *
  generalize ll.length = m at *
  have HLN := Lib.hid hln
  clear hln
  go_enter Try.func18, Try.ntmps18
  go_wp2_with fail
  refine (HFU.out _ (by exact (HR.out.below ((Below.refl _ _).alloc (Nat.le_refl _) _) hB).below ((Below.refl _ _).alloc (Nat.le_refl _) _) (by simp; omega)) (by simp; omega) HLEN.out).mono ?_
  rintro e w1 ⟨A1, c1, rfl, hrd, hb1⟩
  simp only
  have hbw : Below w.heap.size w w1 := (((Below.refl _ _).alloc (Nat.le_refl _) _).alloc (by simp) _).trans (hb1.mono (by simp; omega))
  have hz := hb1.size
  simp at hz
  have hk1 : Blk w1 (w.heap.size + 1) 28 #[.int .i64 0, .int .i64 0, .int .i64 0, .int .i64 0] := (Blk.new_at _ _ _ (by simp)).below hb1 (by simp)
  have p1 : w1.cell? ⟨w.heap.size, 1, none⟩ = some (.slice Am n cm) := by rw [hb1.cell (by simp; omega)]; simp [go_sem]
  have y3 : w.heap.size + 1 < w1.heap.size := by omega
  have HRD := Lib.hid hrd
  have HK1 := Lib.hid hk1
  clear hb1 hrd hk1
  by_cases he : rr = 0
  · subst he
    have hpr := HPR.out
    rw [if_neg (by simp)] at hpr
    have HPR2 := Lib.hid hpr
    have hLw := HL.out.below hbw hB
    have HLW := Lib.hid hLw
    clear hpr HPR hLw
    go_wp2_with fail
    refine (HRC.out _ _ w1 HRD.out (by omega) (HLW.out.more (by omega))).mono ?_
    rintro e w2 ⟨rfl, hb2⟩
    simp only [costV]
    have hk2 := HK1.out.below hb2 y3
    have q := hk2.cell
    have z := hk2.frozen
    have hbw2 : Below w.heap.size w w2 := hbw.trans (hb2.mono (by omega))
    have y4 : w.heap.size + 1 < w2.heap.size := hk2.lt
    have HW2 := Lib.hid (HPR2.out.trans HWH.out)
    clear p1 HPR2 HWH hk2 hb2
    by_cases hke : ke = 0
    · subst hke
      by_cases hk0 : 0 < k0
      · have hw := HW2.out
        rw [if_neg (by simp), if_pos hk0] at hw
        have HW3 := Lib.hid hw
        clear hw HW2
        go_wp2
        refine bodyPost_ret (v := .tuple #[.agg #[.int .i64 0, .int .i64 0, .int .i64 0, .int .i64 0], .int .i64 51]) (by simp [results, Try.results18, go_sem, q, y4]) rfl ⟨by rw [HW3.out]; rfl, (by repeat (first | exact Below.refl _ _ | assumption | (refine Below.setCell ?_ (by first | omega | (simp; done) | (simp; omega)) _) | (refine Below.drew ?_) | (refine below_drewN ?_ _) | (refine Below.alloc ?_ (by first | omega | (simp; done) | (simp; omega)) _)))⟩
      · have hw := HW2.out
        rw [if_neg (by simp), if_neg hk0] at hw
        have HW3 := Lib.hid hw
        clear hw HW2
        go_wp2
        refine bodyPost_ret (v := .tuple #[.agg #[.int .i64 k0, .int .i64 k1, .int .i64 k2, .int .i64 k3], .int .i64 0]) (by simp [results, Try.results18, go_sem, q, y4]) rfl ⟨by rw [HW3.out]; rfl, (by repeat (first | exact Below.refl _ _ | assumption | (refine Below.setCell ?_ (by first | omega | (simp; done) | (simp; omega)) _) | (refine Below.drew ?_) | (refine below_drewN ?_ _) | (refine Below.alloc ?_ (by first | omega | (simp; done) | (simp; omega)) _)))⟩
    · have hw := HW2.out
      rw [if_pos hke] at hw
      have HW3 := Lib.hid hw
      have h2 : (ke != 0) = true := by simpa using hke
      clear hw HW2 hke
      go_wp2
      refine bodyPost_ret (v := .tuple #[.agg #[.int .i64 0, .int .i64 0, .int .i64 0, .int .i64 0], .int .i64 ke]) (by simp [results, Try.results18, go_sem, q, y4]) rfl ⟨by rw [HW3.out]; rfl, (by repeat (first | exact Below.refl _ _ | assumption | (refine Below.setCell ?_ (by first | omega | (simp; done) | (simp; omega)) _) | (refine Below.drew ?_) | (refine below_drewN ?_ _) | (refine Below.alloc ?_ (by first | omega | (simp; done) | (simp; omega)) _)))⟩
  · have hpr := HPR.out
    rw [if_pos he] at hpr
    have HPR2 := Lib.hid hpr
    have h2 : (rr != 0) = true := by simpa using he
    have q := HK1.out.cell
    have z := HK1.out.frozen
    clear hpr HPR he
    go_wp2
    refine bodyPost_ret (v := .tuple #[.agg #[.int .i64 0, .int .i64 0, .int .i64 0, .int .i64 0], .int .i64 rr]) (by simp [results, Try.results18, go_sem, q]) rfl ⟨by rw [HPR2.out]; rfl, (by repeat (first | exact Below.refl _ _ | assumption | (refine Below.setCell ?_ (by first | omega | (simp; done) | (simp; omega)) _) | (refine Below.drew ?_) | (refine below_drewN ?_ _) | (refine Below.alloc ?_ (by first | omega | (simp; done) | (simp; omega)) _)))⟩

set_option maxHeartbeats 1000000 in
theorem same_any (A A' : Option Addr) (c c' B : Nat) (l : List Bd.Cost) (w : World) (h : Reads w B 4 A l.length (costCells l)) (h' : Reads w B 4 A' l.length (costCells l)) (hl : l.length ≤ 1000000000000) :
    Calls Try.prog 19 #[.slice A l.length c, .slice A' l.length c'] w fun e w' => e = .returned (.bool true) ∧ Below w.heap.size w w' := by
  obtain ⟨n, hn⟩ : ∃ n, n = l.length := ⟨_, rfl⟩
  rw [← hn] at h h' hl ⊢
  have HN := Lib.hid hn
  have H := Lib.hid h
  have H' := Lib.hid h'
  clear h h' hn
  have hnb : ((n : Int) != (n : Int)) = false := by simp
  go_enter Try.func19, Try.ntmps19
  go_wp2_with fail
  go_loopw [5] (fun i wr => ∃ k : Nat, k ≤ n ∧ i = .int .i64 k ∧ Below w.heap.size w wr ∧ wr.heap = w.heap) (fun i _ => n - (intOf i).toNat)
  case atStart => exact ⟨0, by omega, rfl, Below.refl _ _, rfl⟩
  case round =>
    obtain ⟨k, hk, rfl, hb, hh⟩ := hrel
    have HH := Lib.hid hh
    have hcell : ∀ p, wr.cell? p = w.cell? p := fun p => by unfold World.cell?; rw [hh]
    have HCE := Lib.hid hcell
    clear hh hcell
    by_cases hlt : k < n
    · obtain ⟨x, hx⟩ : ∃ x, l[k]? = some x := ⟨_, List.getElem?_eq_getElem (by have := HN.out; omega)⟩
      obtain ⟨b, off, rfl, hbB, hcells⟩ := H.out.2 (by omega)
      obtain ⟨b', off', rfl, hbB', hcells'⟩ := H'.out.2 (by omega)
      obtain ⟨g0, g1, g2, g3⟩ := costCells_at l k x hx
      have d0 := hcells _ _ g0
      have d1 := hcells _ _ g1
      have d2 := hcells _ _ g2
      have d3 := hcells _ _ g3
      have e0 := hcells' _ _ g0
      have e1 := hcells' _ _ g1
      have e2 := hcells' _ _ g2
      have e3 := hcells' _ _ g3
      rw [← Nat.add_assoc] at d1 d2 d3 e1 e2 e3
      rw [← HCE.out] at d0 d1 d2 d3 e0 e1 e2 e3
      clear hcells hcells' g0 g1 g2 g3 hx
      obtain ⟨x0, x1, x2, x3⟩ := x
      simp only at d0 d1 d2 d3 e0 e1 e2 e3
      have i1 : (0 : Int) ≤ (k : Int) := by omega
      have i2 : (k : Int) < (n : Int) := by omega
      go_wp2_with fail
      go_quiet (fail)
      go_wp2
      go_roundw
      case rel => exact ⟨k + 1, by omega, by go_num, below_drewN hb _, HH.out⟩
      case measure => simp [intOf]; omega
    · go_wp2
      go_ret
      exact ⟨rfl, hb⟩
end Go.Proofs.Ytgklchhgpnoliaa

/- Parts of the proof, joined: RefD WrC StW. -/
import Derived.Test.YtnhebmgibiomnaaGreatPc36
import Derived.Test.YtnhebmgibiomnaaGreatPc39
import Derived.Test.YtnhebmgibiomnaaGreatPc40
import Derived.Test.YtnhebmgibiomnaaGreatPc41
set_option linter.unusedVariables false
set_option linter.unusedSimpArgs false
namespace Go.Proofs.YtnhebmgibiomnaaGreat
open Go.RowKit
set_option maxHeartbeats 400000 in
theorem rfuncs_many (A : Option Addr) (n c : Nat) (w : World) (hn : 20 < n) :
    Calls Tryz.prog 67 #[.slice A n c] w fun e w' => e = .returned (.tuple #[.slice none 0 0, .int .i64 20, .int .i64 2]) ∧ w = w' := by
  have h : (20 : Int) < n := by omega
  go_enter Tryz.func67, Tryz.ntmps67
  go_wp2
  go_ret3
  exact ⟨rfl, rfl⟩
def FInv (w : World) (ll : List (List (Int × Int))) (v i : Value) (wr : World) : Prop :=
  ∃ (k : Nat) (cs : List Bd.Cost) (A : Option Addr) (c : Nat), k ≤ ll.length ∧ i = .int .i64 k ∧ cs.length = k ∧ v = .slice A k c ∧ OwnAt (costR w.heap.size) 78 w.heap.size wr v cs ∧ Bd.funcsGo (ll.drop k) k cs = Bd.funcsGo ll 0 [] ∧ Below w.heap.size w wr
set_option maxHeartbeats 1000000 in
theorem rfuncs_few (A : Option Addr) (c B : Nat) (ll : List (List (Int × Int))) (w : World) (hR : RowsAt w B A ll) (hB : B ≤ w.heap.size) (hn : ll.length ≤ 20) (hlen : ∀ l ∈ ll, l.length ≤ 1000000000000) :
    Calls Tryz.prog 67 #[.slice A ll.length c] w (FuncsPost w (Bd.funcsGo ll 0 [])) := by
  obtain ⟨i0, hi, hz0, hz1, hz2⟩ := info_parts cost_info
  obtain ⟨n, hnn⟩ : ∃ n, n = ll.length := ⟨_, rfl⟩
  rw [← hnn] at hn ⊢
  have HN := Lib.hid hnn
  have HR := Lib.hid hR
  have HLEN := Lib.hid hlen
  have h20 : ¬ (20 : Int) < n := by omega
  clear hnn hR hlen
  go_enter Tryz.func67, Tryz.ntmps67
  go_wp2_with fail
  go_loopw [5, 6] (fun v i wr => FInv w ll v i wr) (fun _ i _ => n - (intOf i).toNat)
  case atStart => exact ⟨0, [], _, _, by omega, rfl, rfl, rfl, OwnAt.empty (costR w.heap.size) (Blk.new _ _ _) (Nat.le_refl _), by simp, (Below.refl _ _).alloc (Nat.le_refl _) _⟩
  case round =>
    obtain ⟨k, cs, A', c', hk, rfl, hcl, rfl, hown, hgo, hb⟩ := hrel
    rw [← HN.out] at hk
    obtain ⟨A2, c2, e2, _, _, hrow⟩ := hown.form
    injection e2 with e3 e4 e5
    subst e3 e5
    have HRD := Lib.hid (costR_reads hrow)
    have HOWN := Lib.hid hown
    have HGO := Lib.hid hgo
    have HCL := Lib.hid hcl
    have hsz := hb.size
    have hck : cs.length ≤ k ∧ k ≤ cs.length := by omega
    clear hown hgo hcl e4 hrow
    by_cases hlt : k < n
    · obtain ⟨l, hl⟩ : ∃ l, ll[k]? = some l := ⟨_, List.getElem?_eq_getElem (by have := HN.out; omega)⟩
      have hRw := HR.out.below hb hB
      obtain ⟨vs, hvs, hin⟩ := hRw
      obtain ⟨v, hv, Al, cl, rfl, hlr⟩ := hin k l hl
      obtain ⟨b, off, rfl, hbB, hcells⟩ := hvs.2 (by have := HN.out; omega)
      have d0 := hcells _ _ hv
      have hdrop : ll.drop k = l :: ll.drop (k + 1) := by
        have hjl : k < ll.length := by have := HN.out; omega
        rw [List.drop_eq_getElem_cons hjl]
        rw [List.getElem?_eq_getElem hjl] at hl
        rw [Option.some.inj hl]
      have HDROP := Lib.hid hdrop
      have hll := HLEN.out l (List.mem_of_getElem? hl)
      have HLR := Lib.hid hlr
      have HRC := Lib.hid (rcode_any Al A' l.length cl k c' wr.heap.size cs l wr (by rw [← HCL.out]; exact HRD.out) (Nat.le_refl _) HCL.out.symm (by omega) hll rfl (HLR.out.more (by omega)))
      clear hcells hin hvs hv hl hdrop hlr hll
      go_wp2_with fail
      refine HRC.out.mono ?_
      rintro e w1 ⟨rfl, hb1⟩
      simp only [costV]
      have hb2 : Below w.heap.size w w1 := hb.trans (hb1.mono hsz)
      by_cases hr : (Bd.code l cs).2.2 = 0
      · have hgo2 : Bd.funcsGo (ll.drop (k + 1)) ((k + 1 : Nat) : Int) (cs ++ [(Bd.code l cs).1]) = Bd.funcsGo ll 0 [] := by
          have h0 := HGO.out
          rw [HDROP.out, Bd.funcsGo, if_neg (by rw [hr]; simp)] at h0
          rw [← h0, show ((k + 1 : Nat) : Int) = (k : Int) + 1 by omega]
        have HGO2 := Lib.hid hgo2
        rw [hr]
        have hown1 := HOWN.out.below hb1 (Nat.le_refl _)
        have HOWN1 := Lib.hid hown1
        have hsm := Bd.code_small l cs
        generalize (Bd.code l cs).1 = cc at *
        obtain ⟨c0, c1, c2, c3⟩ := cc
        have HI4 : Hid (I64 c0 ∧ I64 c1 ∧ I64 c2 ∧ I64 c3) := by unfold Bd.Small at hsm; unfold I64; exact ⟨by simp only at hsm; omega, by simp only at hsm; omega, by simp only at hsm; omega, by simp only at hsm; omega⟩
        clear hr hgo2 HDROP HGO hown1 d0 HRC hsm
        have z1 := hb1.size
        obtain ⟨W, hW⟩ : ∃ W, W = (w1.alloc (.cells #[.int .i64 c0, .int .i64 c1, .int .i64 c2, .int .i64 c3] 78)).alloc (.cells #[.int .i64 c0, .int .i64 c1, .int .i64 c2, .int .i64 c3] 78) := ⟨_, rfl⟩
        have hWz : W.heap.size = w1.heap.size + 1 + 1 := by rw [hW]; simp
        have hWo : OwnAt (costR w.heap.size) 78 w.heap.size W (.slice A' k c') cs := by rw [hW]; exact HOWN1.out.below (((Below.refl _ _).alloc (Nat.le_refl _) _).alloc (by simp) _) (Nat.le_refl _)
        have hWb : Blk W (w1.heap.size + 1) 78 #[.int .i64 c0, .int .i64 c1, .int .i64 c2, .int .i64 c3] := by rw [hW]; exact Blk.new_at _ _ _ (by simp)
        have hWw : Below w.heap.size w W := by rw [hW]; exact (hb2.alloc (by omega) _).alloc (by simp; omega) _
        have HW := Lib.hid hW
        have HWO := Lib.hid hWo
        have HWB := Lib.hid hWb
        clear hW hWo hWb
        go_wp2_with (at_builtin; rw [← HW.out]; refine wpList_push _ rfl (.tmp 34) (.tmp 36) _ rfl (costR w.heap.size) w.heap.size 78 i0 _ 32 Tryz.underlying81 hi hz0 hz1 hz2 rfl (show 0 < 4 by decide) (by simp [costR, Repr.map, Repr.pair, Repr.int]) (Nat.le_refl _) (.slice A' k c') cs rfl HWO.out (w1.heap.size + 1) [.int .i64 c0, .int .i64 c1, .int .i64 c2, .int .i64 c3] ⟨c0, c1, c2, c3⟩ rfl HWB.out (costR_mk _ _ _ _ _ _ _ HI4.out.1 HI4.out.2.1 HI4.out.2.2.1 HI4.out.2.2.2) (by simp [maxLen]; omega) (by omega) (by omega) ?_; intro A3 c3' w2 hown3 hg3; rw [HCL.out] at hown3 ⊢)
        refine ⟨⟨k + 1, cs ++ [⟨c0, c1, c2, c3⟩], A3, c3', by rw [← HN.out]; omega, by go_num, by simp; omega, rfl, hown3, HGO2.out, below_own HWO.out hWw hg3 (by omega) (Nat.le_refl _)⟩, by simp [intOf]; omega⟩
      · have hgo2 : Bd.funcsGo ll 0 [] = ([], (k : Int), (Bd.code l cs).2.2) := by
          rw [← HGO.out, HDROP.out, Bd.funcsGo, if_pos hr]
        have HGO2 := Lib.hid hgo2
        have hrb : ((Bd.code l cs).2.2 != 0) = true := by simpa using hr
        generalize (Bd.code l cs).2.2 = rr at *
        generalize (Bd.code l cs).2.1 = ra at *
        generalize (Bd.code l cs).1 = cc at *
        obtain ⟨c0, c1, c2, c3⟩ := cc
        clear hr hgo2 HDROP HGO d0 HRC
        go_wp2
        go_ret3
        refine ⟨none, 0, by rw [HGO2.out]; rfl, ?_, hb2.alloc (by have := hb1.size; omega) _⟩
        rw [HGO2.out]
        exact Reads.none_
    · have hkn : k = n := by omega
      have hgo2 : Bd.funcsGo ll 0 [] = (cs, 0, 0) := by
        have h0 := HGO.out
        rw [List.drop_eq_nil_of_le (by have := HN.out; omega), Bd.funcsGo] at h0
        exact h0.symm
      have HGO2 := Lib.hid hgo2
      have HKN := Lib.hid hkn
      clear hkn hgo2 HGO
      go_wp2
      go_ret3
      refine ⟨A', c', by rw [HGO2.out, ← HCL.out]; rfl, ?_, hb⟩
      rw [HGO2.out]
      exact HRD.out
theorem rfuncs_any (A : Option Addr) (c B : Nat) (ll : List (List (Int × Int))) (w : World) (hR : RowsAt w B A ll) (hB : B ≤ w.heap.size) (hlen : ∀ l ∈ ll, l.length ≤ 1000000000000) :
    Calls Tryz.prog 67 #[.slice A ll.length c] w (FuncsPost w (Bd.funcs ll)) := by
  by_cases h : ll.length > 20
  · have e : Bd.funcs ll = ([], 20, 2) := by unfold Bd.funcs; rw [if_pos h]
    rw [e]
    refine (rfuncs_many A ll.length c w h).mono ?_
    rintro e w' ⟨rfl, rfl⟩
    exact ⟨none, 0, rfl, Reads.none_, Below.refl _ _⟩
  · have e : Bd.funcs ll = Bd.funcsGo ll 0 [] := by unfold Bd.funcs; rw [if_neg h]
    rw [e]
    exact rfuncs_few A c B ll w hR hB (by omega) hlen
set_option maxHeartbeats 1000000 in
theorem rprogram_any (A Am : Option Addr) (c cm B : Nat) (cvt : Value) (size : Int) (ll : List (List (Int × Int))) (l : List (Int × Int)) (w : World) (hcv : ∃ a n k, cvt = .slice a n k) (hR : RowsAt w B A ll) (hl : Reads w B 2 Am l.length (insCells l)) (hB : B ≤ w.heap.size) (hlen : ∀ l ∈ ll, l.length ≤ 1000000000000) (hn : l.length ≤ 1000000000000) :
    Calls Tryz.prog 38 #[.agg #[.slice A ll.length c, .slice Am l.length cm, cvt, .int .i64 size]] w (WholePost w (Bd.program ll l)) := by
  obtain ⟨ca, cn, ck, rfl⟩ := hcv
  have hfl := Bd.funcs_len ll
  obtain ⟨r, hr⟩ : ∃ r, r = Bd.funcs ll := ⟨_, rfl⟩
  have hpr : Bd.program ll l = if r.2.2 ≠ 0 then (⟨0, 0, 0, 0⟩, r.2.2) else Bd.whole l r.1 := by unfold Bd.program; rw [hr]
  rw [← hr] at hfl
  have HFU := Lib.hid (fun W h => rfuncs_any A c B ll W h)
  rw [← hr] at HFU
  obtain ⟨cs, ra, rr⟩ := r
  simp only at hpr hfl
  have hwh : Bd.whole l cs = if (Bd.code l cs).2.2 ≠ 0 then (⟨0, 0, 0, 0⟩, (Bd.code l cs).2.2) else if (Bd.code l cs).1.need > 0 then (⟨0, 0, 0, 0⟩, 51) else ((Bd.code l cs).1, 0) := rfl
  have HRC := Lib.hid (fun Af cf W h1 h2 h3 => rcode_any Am Af l.length cm cs.length cf W.heap.size cs l W h1 (Nat.le_refl _) rfl h2 hn rfl h3)
  obtain ⟨k, hk⟩ : ∃ k, k = Bd.code l cs := ⟨_, rfl⟩
  rw [← hk] at hwh HRC
  have HPR := Lib.hid hpr
  have HWH := Lib.hid hwh
  have HR := Lib.hid hR
  have HL := Lib.hid hl
  have HLEN := Lib.hid hlen
  clear hpr hr hR hl hlen hwh hk hn
  obtain ⟨⟨k0, k1, k2, k3⟩, ka, ke⟩ := k
  generalize hln : l.length = n at *
  generalize ll.length = m at *
  have HLN := Lib.hid hln
  clear hln
  go_enter Tryz.func38, Tryz.ntmps38
  go_wp2_with fail
  refine (HFU.out _ (by exact (HR.out.below ((Below.refl _ _).alloc (Nat.le_refl _) _) hB).below ((Below.refl _ _).alloc (Nat.le_refl _) _) (by simp; omega)) (by simp; omega) HLEN.out).mono ?_
  rintro e w1 ⟨A1, c1, rfl, hrd, hb1⟩
  simp only
  have hbw : Below w.heap.size w w1 := (((Below.refl _ _).alloc (Nat.le_refl _) _).alloc (by simp) _).trans (hb1.mono (by simp; omega))
  have hz := hb1.size
  simp at hz
  have hk1 : Blk w1 (w.heap.size + 1) 78 #[.int .i64 0, .int .i64 0, .int .i64 0, .int .i64 0] := (Blk.new_at _ _ _ (by simp)).below hb1 (by simp)
  have p1 : w1.cell? ⟨w.heap.size, 1, none⟩ = some (.slice Am n cm) := by rw [hb1.cell (by simp; omega)]; simp [go_sem]
  have y3 : w.heap.size + 1 < w1.heap.size := by omega
  have HRD := Lib.hid hrd
  have HK1 := Lib.hid hk1
  clear hb1 hrd hk1
  by_cases he : rr = 0
  · subst he
    have hpr := HPR.out
    rw [if_neg (by simp)] at hpr
    have HPR2 := Lib.hid hpr
    have hLw := HL.out.below hbw hB
    have HLW := Lib.hid hLw
    clear hpr HPR hLw
    go_wp2_with fail
    refine (HRC.out _ _ w1 HRD.out (by omega) (HLW.out.more (by omega))).mono ?_
    rintro e w2 ⟨rfl, hb2⟩
    simp only [costV]
    have hk2 := HK1.out.below hb2 y3
    have q := hk2.cell
    have z := hk2.frozen
    have hbw2 : Below w.heap.size w w2 := hbw.trans (hb2.mono (by omega))
    have y4 : w.heap.size + 1 < w2.heap.size := hk2.lt
    have HW2 := Lib.hid (HPR2.out.trans HWH.out)
    clear p1 HPR2 HWH hk2 hb2
    by_cases hke : ke = 0
    · subst hke
      by_cases hk0 : 0 < k0
      · have hw := HW2.out
        rw [if_neg (by simp), if_pos hk0] at hw
        have HW3 := Lib.hid hw
        clear hw HW2
        go_wp2
        refine bodyPost_ret (v := .tuple #[.agg #[.int .i64 0, .int .i64 0, .int .i64 0, .int .i64 0], .int .i64 51]) (by simp [results, Tryz.results38, go_sem, q, y4]) rfl ⟨by rw [HW3.out]; rfl, (by repeat (first | exact Below.refl _ _ | assumption | (refine Below.setCell ?_ (by first | omega | (simp; done) | (simp; omega)) _) | (refine Below.drew ?_) | (refine below_drewN ?_ _) | (refine Below.alloc ?_ (by first | omega | (simp; done) | (simp; omega)) _)))⟩
      · have hw := HW2.out
        rw [if_neg (by simp), if_neg hk0] at hw
        have HW3 := Lib.hid hw
        clear hw HW2
        go_wp2
        refine bodyPost_ret (v := .tuple #[.agg #[.int .i64 k0, .int .i64 k1, .int .i64 k2, .int .i64 k3], .int .i64 0]) (by simp [results, Tryz.results38, go_sem, q, y4]) rfl ⟨by rw [HW3.out]; rfl, (by repeat (first | exact Below.refl _ _ | assumption | (refine Below.setCell ?_ (by first | omega | (simp; done) | (simp; omega)) _) | (refine Below.drew ?_) | (refine below_drewN ?_ _) | (refine Below.alloc ?_ (by first | omega | (simp; done) | (simp; omega)) _)))⟩
    · have hw := HW2.out
      rw [if_pos hke] at hw
      have HW3 := Lib.hid hw
      have h2 : (ke != 0) = true := by simpa using hke
      clear hw HW2 hke
      go_wp2
      refine bodyPost_ret (v := .tuple #[.agg #[.int .i64 0, .int .i64 0, .int .i64 0, .int .i64 0], .int .i64 ke]) (by simp [results, Tryz.results38, go_sem, q, y4]) rfl ⟨by rw [HW3.out]; rfl, (by repeat (first | exact Below.refl _ _ | assumption | (refine Below.setCell ?_ (by first | omega | (simp; done) | (simp; omega)) _) | (refine Below.drew ?_) | (refine below_drewN ?_ _) | (refine Below.alloc ?_ (by first | omega | (simp; done) | (simp; omega)) _)))⟩
  · have hpr := HPR.out
    rw [if_pos he] at hpr
    have HPR2 := Lib.hid hpr
    have h2 : (rr != 0) = true := by simpa using he
    have q := HK1.out.cell
    have z := HK1.out.frozen
    clear hpr HPR he
    go_wp2
    refine bodyPost_ret (v := .tuple #[.agg #[.int .i64 0, .int .i64 0, .int .i64 0, .int .i64 0], .int .i64 rr]) (by simp [results, Tryz.results38, go_sem, q]) rfl ⟨by rw [HPR2.out]; rfl, (by repeat (first | exact Below.refl _ _ | assumption | (refine Below.setCell ?_ (by first | omega | (simp; done) | (simp; omega)) _) | (refine Below.drew ?_) | (refine below_drewN ?_ _) | (refine Below.alloc ?_ (by first | omega | (simp; done) | (simp; omega)) _)))⟩
end Go.Proofs.YtnhebmgibiomnaaGreat
namespace Go.Proofs.YtnhebmgibiomnaaGreat
open Go.RowKit Mc
theorem rsize_plan {fs : List Bd.Cost} {l : List (Int × Int)} {ps : List Bu.Plan} (hfine : Bu.CodeFine fs ps ps.length l) (A Af : Option Addr) (c cf B : Nat) (w : World) (h : Reads w B 2 A l.length (insCells l)) (hf : Reads w B 1 Af ps.length (ints (sizes ps))) (hB : B ≤ w.heap.size) (hl : l.length ≤ 100000) (hs : ∀ p ∈ ps, 0 ≤ p.size ∧ p.size ≤ 20001) (hp : ps.length ≤ 100000) :
    Calls Tryz.prog 39 #[.slice A l.length c, .slice Af ps.length cf] w fun e w' => e = .returned (.int .i64 (Bu.planned l fs ps).size) ∧ Below w.heap.size w w' := by
  rw [Bu.planned_rsz fs hs l]
  exact rsize_any l ps A Af c cf B w (by rw [← insCells_eq]; exact h) hf hB hl hfine.jumps hfine.ahead hfine.calls hs hp
def WrI (w3 : World) (ps : List Bu.Plan) (v i : Value) (wr : World) : Prop :=
  ∃ k : Nat, k ≤ ps.length ∧ i = .int .i64 (k : Int) ∧ wr.ownsRow w3.heap.size 3 1 v k (ints (sizes (ps.take k))) ∧ Below w3.heap.size w3 wr
set_option maxRecDepth 100000 in
set_option maxHeartbeats 8000000 in
theorem rwrong_any (A Am : Option Addr) (c cm : Nat) (cvt : Value) (size : Int) (ll : List (List (Int × Int))) (l : List (Int × Int)) (w : World) (hcv : ∃ a n k, cvt = .slice a n k) (hR : RowsAt w w.heap.size A ll) (hl : Reads w w.heap.size 2 Am l.length (insCells l)) (hlen : ∀ l ∈ ll, l.length ≤ 100000) (hn : l.length ≤ 100000) (hi : ∀ l ∈ ll, ∀ x ∈ l, I64 x.2) :
    Calls Tryz.prog 16 #[.agg #[.slice A ll.length c, .slice Am l.length cm, cvt, .int .i64 size]] w fun e w' => e = .returned (.int .i64 (Bu.build ll l).2) ∧ Below w.heap.size w w' := by
  obtain ⟨ca, cn, ck, rfl⟩ := hcv
  have HPR := Lib.hid (fun W h1 h2 h3 => rprogram_any A Am c cm w.heap.size (.slice ca cn ck) size ll l W ⟨_, _, _, rfl⟩ h1 h2 h3 (fun l hl => Nat.le_trans (hlen l hl) (by decide)) (Nat.le_trans hn (by decide)))
  have hpk := fun (c : Bd.Cost) (h : Bd.program ll l = (c, 0)) => prog_ok h
  have hbu : (Bu.build ll l).2 = if (Bd.program ll l).2 ≠ 0 then (Bd.program ll l).2 else if 20000 < (Bu.planned l (Bd.funcs ll).1 (Bu.plans (Bd.funcs ll).1 ll [])).size + 1 then 3 else 0 := by
    unfold Bu.build
    simp only
    split
    · rfl
    · split <;> rfl
  generalize Bd.program ll l = pr at *
  obtain ⟨⟨c0, c1, c2, c3⟩, e⟩ := pr
  simp only at hbu
  have HR := Lib.hid hR
  have HL := Lib.hid hl
  have b0 : Below w.heap.size w (w.alloc (.cells #[.slice A ll.length c, .slice Am l.length cm, .slice ca cn ck, .int .i64 size] 26)) := (Below.refl _ _).alloc (Nat.le_refl _) _
  have HP0 := Lib.hid (Blk.new w 26 #[.slice A ll.length c, .slice Am l.length cm, .slice ca cn ck, .int .i64 size])
  have HB0 := Lib.hid b0
  have HLEN := Lib.hid hlen
  have HN := Lib.hid hn
  have HI := Lib.hid hi
  have HPK := Lib.hid hpk
  have HBU0 := Lib.hid hbu
  clear hR hl b0 hlen hi hn hpk hbu
  go_enter Tryz.func16, Tryz.ntmps16
  go_wp2_with fail
  refine (HPR.out _ (HR.out.below HB0.out (Nat.le_refl _)) (HL.out.below HB0.out (Nat.le_refl _)) HB0.out.size).mono ?_
  rintro e1 w1 ⟨rfl, hb1⟩
  simp only [costV]
  have hb := hb1.alloc hb1.size (.cells #[.int .i64 c0, .int .i64 c1, .int .i64 c2, .int .i64 c3] 78)
  have HPB := Lib.hid (Blk.go HP0.out hb)
  have HBW := Lib.hid (HB0.out.trans (hb.mono HB0.out.size))
  clear HP0 HB0 HPR hb hb1
  by_cases he : e = 0
  · subst he
    obtain ⟨hz, hok⟩ := HPK.out _ rfl
    have hbu := HBU0.out
    rw [if_neg (by simp)] at hbu
    generalize Bd.funcs ll = r at *
    obtain ⟨fs, f1, f2⟩ := r
    simp only at hz hok hbu
    subst hz
    generalize hPS : Bu.plans fs ll [] = ps at *
    generalize hES : Bu.emits ps [] = es at *
    have HBU := Lib.hid hbu
    have HOK := Lib.hid hok
    have HPN := Lib.hid hok.all.pn
    have HFL := Lib.hid hok.all.fl
    have H20 := Lib.hid hok.all.l20
    obtain ⟨j0, hj0, hj1, hj2, hj3⟩ := info_m info_int
    clear hPS hES hbu hok HPK HBU0
    go_upto_region 4 with fail
    generalize w1.alloc (.cells #[.int .i64 c0, .int .i64 c1, .int .i64 c2, .int .i64 c3] 78) = X1 at *
    have p0 := HPB.out.cell 0
    have p1 := HPB.out.cell 1
    simp only [List.getElem?_toArray, List.getElem?_cons_zero, List.getElem?_cons_succ] at p0 p1
    have hpl := HPB.out.lt
    go_wp2_with fail
    go_loopw [5, 6] (fun v i W => WrI X1 ps v i W) (fun _ i _ => ps.length - (intOf i).toNat)
    case atStart => exact ⟨0, Nat.zero_le _, rfl, owns_empty (Blk.new _ _ _) (Nat.le_refl _), (Below.refl _ _).alloc (Nat.le_refl _) _⟩
    case round =>
      clear p0 p1 hpl
      obtain ⟨k, hk, rfl, ho, hb⟩ := hrel
      obtain ⟨Ap, cp, rfl, _⟩ := owns_form ho
      have HO := Lib.hid ho
      have HB := Lib.hid hb
      have HPr := Lib.hid (Blk.go HPB.out hb)
      have HRr := Lib.hid (RowsAt.more (HR.out.below (HBW.out.trans (hb.mono HBW.out.size)) (Nat.le_refl _)) (Nat.le_trans HBW.out.size hb.size))
      have p0 := HPr.out.cell 0
      have p1 := HPr.out.cell 1
      simp only [List.getElem?_toArray, List.getElem?_cons_zero, List.getElem?_cons_succ] at p0 p1
      have hpl := HPr.out.lt
      by_cases hlt : k < ps.length
      · obtain ⟨x, hx⟩ : ∃ x, ll[k]? = some x := ⟨_, List.getElem?_eq_getElem (by have := HPN.out; omega)⟩
        obtain ⟨hfine, hpx, _⟩ := HOK.out.plan HLEN.out HI.out hx
        have hll := HLEN.out x (List.mem_of_getElem? hx)
        obtain ⟨vs, hvs, hin⟩ := HRr.out
        obtain ⟨u, hu, Al, cl, rfl, hlr⟩ := hin k x hx
        obtain ⟨b, off, rfl, hbB, hcells⟩ := hvs.2 (by have := HPN.out; omega)
        have d0 := hcells _ _ hu
        have hki : (k : Int) < ll.length := by have := HPN.out; omega
        have htk : (ps.take k).length = k := by rw [List.length_take]; omega
        have hq := rsize_plan hfine Al Ap cl cp wr.heap.size wr hlr (by rw [htk]; exact Reads.of_own ho) (Nat.le_refl _) hll (fun p hp => HOK.out.sizes p (List.mem_of_mem_take hp)) (by have := HPN.out; have := H20.out; omega)
        rw [htk] at hq
        generalize hPLN : Bu.planned x fs (ps.take k) = pn at *
        have HQ := Lib.hid hq
        have HPX := Lib.hid hpx
        have HKL := Lib.hid hlt
        clear hq hfine hpx hx hll hvs hin hu hlr hcells htk ho hb hlt hk hPLN
        go_wp2_with fail
        refine HQ.out.mono ?_
        rintro e w5 ⟨rfl, hb5⟩
        have hbd : 0 ≤ pn.size ∧ pn.size ≤ 20001 := HOK.out.sizes pn (List.mem_of_getElem? HPX.out)
        generalize hZ : pn.size = Z at *
        have h5z := hb5.size
        have hbr := HB.out.size
        have hal : Below wr.heap.size wr (w5.alloc (.cells #[.int .i64 Z] 3)) := hb5.alloc hb5.size _
        have HO5 := Lib.hid (ownsRow_below HO.out hal (Nat.le_refl _))
        have HB5 := Lib.hid (HB.out.trans (hal.mono hbr))
        have HP5 := Lib.hid (Blk.go HPr.out hal)
        have H5Z := Lib.hid (show X1.heap.size ≤ (w5.alloc (.cells #[.int .i64 Z] 3)).heap.size by simp only [World.size_alloc]; omega)
        have HZ := Lib.hid hZ
        clear p0 p1 hpl hb5 h5z hbr hal hZ HPr HO HB HRr HQ hbd d0 hbB
        have hkl : k < 20 := by have := HPN.out; have := H20.out; have := HKL.out; omega
        go_wp2_with (at_builtin; refine wpList_append_any _ rfl (.tmp 23) (.tmp 31) _ rfl X1.heap.size 3 j0 _ 1 8 Tryz.underlying22 hj0 hj1 hj2 hj3 rfl (by decide) (.slice Ap k cp) k (ints (sizes (ps.take k))) rfl HO5.out _ (some ⟨w5.heap.size, 0, none⟩) 1 1 [.int .i64 Z] rfl (Reads.one_new w5 3 [.int .i64 Z]) (by simp [Value.oneCell']) (by unfold maxLen; omega) (by omega) H5Z.out ?_; intro v' w6 ho6 hg6 _; obtain ⟨A6, c6, rfl, _⟩ := owns_form ho6; have HO6 := Lib.hid ho6; have HB6 := Lib.hid (Below.grown HB5.out hg6 H5Z.out (fun g e => (owns_block HO5.out e).1)); clear ho6 hg6)
        have hwk : IntKind.i64.wrap ((k : Int) + 1) = (k : Int) + 1 := IntWalk.i64_in _ (by omega)
        go_roundw
        case rel =>
          refine ⟨k + 1, by have := HKL.out; omega, by go_num, ?_, HB6.out⟩
          rw [show sizes (ps.take (k + 1)) = sizes (ps.take k) ++ [Z] by rw [List.take_add_one, HPX.out]; unfold sizes; rw [List.map_append, ← HZ.out]; rfl, show ints (sizes (ps.take k) ++ [Z]) = ints (sizes (ps.take k)) ++ [.int .i64 Z] by unfold ints; rw [List.map_append]; rfl]
          exact HO6.out
        case measure => have := HKL.out; simp [intOf]; omega
      · obtain rfl : k = ps.length := by omega
        obtain ⟨cM, P, hP⟩ := HOK.out.tab
        have hpn := HPN.out
        have hfl := HFL.out
        have h20 := H20.out
        have hfine := code_fine fs ps hP HOK.out.may HOK.out.sizes
        rw [show fs.length = ps.length by omega] at hfine
        have hrd := Reads.of_own ho
        rw [List.take_length] at hrd
        have hq := rsize_plan hfine Am Ap cm cp wr.heap.size wr ((HL.out.below (HBW.out.trans (hb.mono HBW.out.size)) (Nat.le_refl _)).more (Nat.le_trans HBW.out.size hb.size)) hrd (Nat.le_refl _) HN.out HOK.out.sizes (by omega)
        have hbx := Bu.planned_bds fs ps l
        have HBU := Lib.hid HBU.out
        generalize Bu.planned l fs ps = pn at *
        generalize hZ : pn.size = Z at *
        have HQ := Lib.hid hq
        have hki : ¬ ((ps.length : Int) < ll.length) := by omega
        have hbr := HBW.out.size
        clear hq hrd hfine hP cM P hpn hfl h20 hk hlt hZ
        go_wp2_with fail
        refine HQ.out.mono ?_
        rintro e w5 ⟨rfl, hb5⟩
        have hbw := (HBW.out.trans (hb.mono hbr)).trans (hb5.mono (Nat.le_trans hbr hb.size))
        have hwz : IntKind.i64.wrap (Z + 1) = Z + 1 := IntWalk.i64_in _ (by omega)
        have HBD := Lib.hid hbw
        clear hb5 hbw hb ho
        by_cases hsz : (20000 : Int) < Z + 1
        · have hbu := HBU.out
          rw [if_pos hsz] at hbu
          have HBU2 := Lib.hid hbu
          clear hbu
          go_wp2_with fail
          go_ret
          refine ⟨?_, HBD.out⟩
          rw [HBU2.out]
          rfl
        · have hbu := HBU.out
          rw [if_neg hsz] at hbu
          have HBU2 := Lib.hid hbu
          clear hbu
          go_wp2_with fail
          go_ret
          refine ⟨?_, HBD.out⟩
          rw [HBU2.out]
          rfl
  · have HBU := Lib.hid HBU0.out
    have hne : (e != 0) = true := by simpa using he
    have hbw := HBW.out
    clear HBU0 HPK
    go_wp2_with fail
    go_ret
    refine ⟨?_, hbw⟩
    rw [HBU.out, if_pos he]
    rfl
end Go.Proofs.YtnhebmgibiomnaaGreat
namespace Go.Proofs.YtnhebmgibiomnaaGreat
open Go.RowKit Mc
theorem build_right2 (ll : List (List (Int × Int))) (l : List (Int × Int)) : Sr.right (Bu.build ll l).1 = decide ((Bu.build ll l).2 = 0) ∧ (Bu.build ll l).1.length ≤ 20000 := by
  rcases Sr.build_cases ll l with ⟨h1, h2, _⟩ | ⟨h1, _⟩
  · rw [h2, decide_eq_false h1]
    exact ⟨rfl, by simp⟩
  · have := Sm.build_right (ll := ll) (l := l) (code := (Bu.build ll l).1) (by rw [← h1])
    rw [decide_eq_true h1]
    exact this
set_option maxRecDepth 100000 in
set_option maxHeartbeats 8000000 in
theorem straightWrong_walk (ll : List (List (Int × Int))) (ml : List (Int × Int)) (cl : List Int) (size : Int) (fA mA cA : Option Addr) (fc mc cc : Nat) (w : World) (h1 : RowAt (codeR w.heap.size) 24 w w.heap.size fA ll) (h2 : RowAt (insR w.heap.size) 96 w w.heap.size mA ml) (_h3 : Reads w w.heap.size 1 cA cl.length (ints cl))
    (a1 : ml.length ≤ mc) (a2 : mc ≤ maxLen) (a3 : cl.length ≤ cc) (a4 : cc ≤ maxLen) :
    Calls Tryz.prog 4 #[.agg #[.slice fA ll.length fc, .slice mA ml.length mc, .slice cA cl.length cc, .int .i64 size]] w fun e w' => e = .returned (.bool true) ∧ Below w.heap.size w w' := by
  have hb0 : Below w.heap.size w (w.alloc (.cells #[.slice fA ll.length fc, .slice mA ml.length mc, .slice cA cl.length cc, .int .i64 size] 26)) := (Below.refl _ _).alloc (Nat.le_refl _) _
  have HB0 := Lib.hid hb0
  have H2 := Lib.hid (fun (W : World) (hb : Below w.heap.size w W) => ((ins_cut (k := 60) (codeR_reads h2)).below hb (Nat.le_refl _)).more hb.size)
  have HI := Lib.hid (rows_i64 h1)
  have HI2 := Lib.hid (code_i64 h2)
  obtain ⟨n1, hn1⟩ : ∃ n, n = (ml.take 60).length := ⟨_, rfl⟩
  obtain ⟨n2, hn2⟩ : ∃ n, n = (cl.take 8).length := ⟨_, rfl⟩
  obtain ⟨n3, hn3⟩ : ∃ n, n = (fewF ll).length := ⟨_, rfl⟩
  have HF := Lib.hid (fun W (hb : Below w.heap.size w W) => few18_any W w.heap.size w.heap.size hb.size fA mA cA fc mc cc ll ml cl size (h1.below hb (Nat.le_refl _)) a1 a2 a3 a4)
  have HL := Lib.hid (fun (l : List (Int × Int)) (hl : l ∈ fewF ll) => show l.length ≤ 100000 by obtain ⟨l0, _, rfl⟩ := fewF_mem hl; rw [List.length_take]; omega)
  have HL2 := Lib.hid (show (ml.take 60).length ≤ 100000 by rw [List.length_take]; omega)
  have HJ := Lib.hid (fun (l : List (Int × Int)) (hl : l ∈ fewF ll) => show ∀ x ∈ l, I64 x.2 from fun x hx => by obtain ⟨l0, h0, rfl⟩ := fewF_mem hl; exact HI.out l0 h0 x (List.mem_of_mem_take hx))
  have HJ2 := Lib.hid (show ∀ x ∈ ml.take 60, I64 x.2 from fun x hx => HI2.out x (List.mem_of_mem_take hx))
  have HBU := Lib.hid (fun A' c' W h0 h1 => build_any A' mA c' mc (.slice cA n2 cc) size (fewF ll) (ml.take 60) W ⟨_, _, _, rfl⟩ h0 h1 HL.out HL2.out HJ.out HJ2.out)
  have HWR := Lib.hid (fun A' c' W h0 h1 => rwrong_any A' mA c' mc (.slice cA n2 cc) size (fewF ll) (ml.take 60) W ⟨_, _, _, rfl⟩ h0 h1 HL.out HL2.out HJ.out)
  have HN1 := Lib.hid hn1
  have HRI := Lib.hid (build_right2 (fewF ll) (ml.take 60))
  rw [← hn1, ← hn2, ← hn3] at HF
  rw [← hn1, ← hn3] at HBU HWR
  generalize Bu.build (fewF ll) (ml.take 60) = r at *
  obtain ⟨code, er⟩ := r
  clear h1 h2 a1 a2 a3 a4 hb0 hn1 hn2 hn3 HL HL2 HJ HJ2 HI HI2
  go_enter Tryz.func4, Tryz.ntmps4
  go_wp2_with fail
  refine (HF.out _ HB0.out).mono ?_
  rintro e w1 ⟨A', c', rfl, hR, hb1⟩
  have hb := hb1.alloc hb1.size (.cells #[.slice A' n3 c', .slice mA n1 mc, .slice cA n2 cc, .int .i64 size] 26)
  have HBW := Lib.hid (HB0.out.trans (hb.mono HB0.out.size))
  have HR := Lib.hid (RowsAt.go hR (below_new w1 (.cells #[.slice A' n3 c', .slice mA n1 mc, .slice cA n2 cc, .int .i64 size] 26)))
  have HQ := Lib.hid (Blk.new w1 26 #[.slice A' n3 c', .slice mA n1 mc, .slice cA n2 cc, .int .i64 size])
  clear hb hb1 hR HB0 HF
  go_upto_region 2 with fail
  generalize w1.alloc (.cells #[.slice A' n3 c', .slice mA n1 mc, .slice cA n2 cc, .int .i64 size] 26) = X at *
  generalize w1.heap.size = pb at *
  have p0 := HQ.out.cell 0
  have p1 := HQ.out.cell 1
  have p2 := HQ.out.cell 2
  have p3 := HQ.out.cell 3
  simp only [List.getElem?_toArray, List.getElem?_cons_zero, List.getElem?_cons_succ] at p0 p1 p2 p3
  have hpl := HQ.out.lt
  go_wp2_with fail
  refine (HBU.out A' c' X HR.out (by rw [HN1.out]; exact H2.out X HBW.out)).mono ?_
  rintro e w2 ⟨v, rfl, hb, ho⟩
  obtain ⟨Ac, kc, rfl, _⟩ := owns_form ho
  have HBW2 := Lib.hid (HBW.out.trans (hb.mono HBW.out.size))
  have HR2 := Lib.hid (HR.out.go hb)
  have HQ2 := Lib.hid (Blk.go HQ.out hb)
  have HC2 := Lib.hid (Reads.of_own ho)
  clear p0 p1 p2 p3 hpl hb ho HR HQ HBW HBU
  dsimp only
  go_upto_region 3 with fail
  go_wp2_with fail
  refine (built_any _).mono ?_
  rintro e w3 ⟨rfl, hb⟩
  have HBW3 := Lib.hid (HBW2.out.trans (hb.mono HBW2.out.size))
  have HR3 := Lib.hid (HR2.out.go hb)
  have HQ3 := Lib.hid (Blk.go HQ2.out hb)
  have HC3 := Lib.hid (Reads.go HC2.out hb)
  clear hb HR2 HQ2 HBW2 HC2
  have p0 := HQ3.out.cell 0
  have p1 := HQ3.out.cell 1
  have p2 := HQ3.out.cell 2
  have p3 := HQ3.out.cell 3
  simp only [List.getElem?_toArray, List.getElem?_cons_zero, List.getElem?_cons_succ] at p0 p1 p2 p3
  have hpl := HQ3.out.lt
  go_wp2_with fail
  refine (HWR.out A' c' w3 HR3.out (by rw [HN1.out]; exact H2.out w3 HBW3.out)).mono ?_
  rintro e w4 ⟨rfl, hb⟩
  have HBW4 := Lib.hid (HBW3.out.trans (hb.mono HBW3.out.size))
  have HC4 := Lib.hid (Reads.go HC3.out hb)
  clear p0 p1 p2 p3 hpl hb HR3 HQ3 HBW3 HC3 HWR
  dsimp only
  have hri := HRI.out
  go_wp2_with fail
  refine (right_any Ac kc w4.heap.size code w4 HC4.out (Nat.le_refl _) (by omega)).mono ?_
  rintro e w5 ⟨rfl, hb⟩
  have hbw := HBW4.out.trans (hb.mono HBW4.out.size)
  rw [hri.1]
  clear hb HC4 HBW4 hri HRI
  by_cases he : er = 0
  · subst he
    go_wp2_with fail
    go_ret
    exact ⟨rfl, hbw⟩
  · rw [decide_eq_false he]
    have hne : (er == 0) = false := by simpa using he
    go_wp2_with fail
    go_ret
    exact ⟨rfl, hbw⟩
end Go.Proofs.YtnhebmgibiomnaaGreat

/- bound.whole, Program: their contracts. -/
import Derived.Test.YtgklchhgpnoliaaBoundL
namespace Go.Proofs.Ytgklchhgpnoliaa
open Go.RowKit

def WholePost (w : World) (r : Bd.Cost × Int) (e : Ending) (w' : World) : Prop := e = .returned (.tuple #[costV r.1, .int .i64 r.2]) ∧ Below w.heap.size w w'

set_option maxHeartbeats 1000000 in
theorem whole_any (Ac Af : Option Addr) (cc cf B : Nat) (l : List (Int × Int)) (fs : List Bd.Cost) (w : World) (hl : Reads w B 2 Ac l.length (insCells l)) (hF : Reads w B 4 Af fs.length (costCells fs)) (hB : B ≤ w.heap.size) (hn : l.length ≤ 1000000000000) (hm1 : fs.length ≤ 1000000000000) :
    Calls Try.prog 29 #[.slice Ac l.length cc, .slice Af fs.length cf] w (WholePost w (Bd.whole l fs)) := by
  obtain ⟨r, hr⟩ : ∃ r, r = Bd.code l fs := ⟨_, rfl⟩
  have hwh : Bd.whole l fs = if r.2.2 ≠ 0 then (⟨0, 0, 0, 0⟩, r.2.2) else if r.1.need > 0 then (⟨0, 0, 0, 0⟩, 51) else (r.1, 0) := by unfold Bd.whole; rw [hr]
  have HC := Lib.hid (fun W h1 h2 => code_any Ac Af l.length cc fs.length cf B l fs W h1 h2)
  rw [← hr] at HC
  obtain ⟨⟨c0, c1, c2, c3⟩, ra, rr⟩ := r
  simp only at hwh
  have HWH := Lib.hid hwh
  have HL := Lib.hid hl
  have HF := Lib.hid hF
  have HN := Lib.hid hn
  have HM := Lib.hid hm1
  clear hwh hr hl hF hn hm1
  generalize l.length = n at *
  generalize fs.length = m at *
  go_enter Try.func29, Try.ntmps29
  go_wp2_with fail
  refine (HC.out _ (by exact HL.out.alloc hB _) (by exact HF.out.alloc hB _) (by simp; omega) trivial trivial HN.out HM.out).mono ?_
  rintro e w1 ⟨rfl, hb1⟩
  simp only [costV]
  have hbw : Below w.heap.size w w1 := ((Below.refl _ _).alloc (Nat.le_refl _) _).trans (hb1.mono (by simp))
  have hz := hb1.size
  simp at hz
  have q0 : w1.cell? ⟨w.heap.size, 0, none⟩ = some (.int .i64 0) := by rw [hb1.cell (by simp)]; simp [go_sem]
  have q1 : w1.cell? ⟨w.heap.size, 1, none⟩ = some (.int .i64 0) := by rw [hb1.cell (by simp)]; simp [go_sem]
  have q2 : w1.cell? ⟨w.heap.size, 2, none⟩ = some (.int .i64 0) := by rw [hb1.cell (by simp)]; simp [go_sem]
  have q3 : w1.cell? ⟨w.heap.size, 3, none⟩ = some (.int .i64 0) := by rw [hb1.cell (by simp)]; simp [go_sem]
  have z : ∀ o, w1.frozen? ⟨w.heap.size, o, none⟩ = false := fun o => by rw [hb1.frozen (by simp)]; simp [go_sem]
  have y3 : w.heap.size < w1.heap.size := by omega
  clear hb1
  by_cases he : rr = 0
  · subst he
    by_cases hn : 0 < c0
    · have hwh := HWH.out
      rw [if_neg (by simp), if_pos hn] at hwh
      have HWH2 := Lib.hid hwh
      clear hwh HWH
      go_wp2
      refine bodyPost_ret (v := .tuple #[.agg #[.int .i64 0, .int .i64 0, .int .i64 0, .int .i64 0], .int .i64 51]) (by simp [results, Try.results29, go_sem, q0, q1, q2, q3, y3]) rfl ⟨by rw [HWH2.out]; rfl, (by repeat (first | exact Below.refl _ _ | assumption | (refine Below.setCell ?_ (by first | omega | (simp; done) | (simp; omega)) _) | (refine Below.drew ?_) | (refine below_drewN ?_ _) | (refine Below.alloc ?_ (by first | omega | (simp; done) | (simp; omega)) _)))⟩
    · have hwh := HWH.out
      rw [if_neg (by simp), if_neg hn] at hwh
      have HWH2 := Lib.hid hwh
      clear hwh HWH
      go_wp2
      refine bodyPost_ret (v := .tuple #[.agg #[.int .i64 c0, .int .i64 c1, .int .i64 c2, .int .i64 c3], .int .i64 0]) (by simp [results, Try.results29, go_sem, q0, q1, q2, q3, y3]) rfl ⟨by rw [HWH2.out]; rfl, (by repeat (first | exact Below.refl _ _ | assumption | (refine Below.setCell ?_ (by first | omega | (simp; done) | (simp; omega)) _) | (refine Below.drew ?_) | (refine below_drewN ?_ _) | (refine Below.alloc ?_ (by first | omega | (simp; done) | (simp; omega)) _)))⟩
  · have hwh := HWH.out
    rw [if_pos he] at hwh
    have HWH2 := Lib.hid hwh
    have h1 : (rr == 0) = false := by simpa using he
    have h2 : (rr != 0) = true := by simpa using he
    clear hwh HWH he
    go_wp2
    refine bodyPost_ret (v := .tuple #[.agg #[.int .i64 0, .int .i64 0, .int .i64 0, .int .i64 0], .int .i64 rr]) (by simp [results, Try.results29, go_sem, q0, q1, q2, q3, y3]) rfl ⟨by rw [HWH2.out]; rfl, (by repeat (first | exact Below.refl _ _ | assumption | (refine Below.setCell ?_ (by first | omega | (simp; done) | (simp; omega)) _) | (refine Below.drew ?_) | (refine below_drewN ?_ _) | (refine Below.alloc ?_ (by first | omega | (simp; done) | (simp; omega)) _)))⟩

set_option maxHeartbeats 1000000 in
theorem program_any (A Am : Option Addr) (c cm B : Nat) (cvt : Value) (size : Int) (ll : List (List (Int × Int))) (l : List (Int × Int)) (w : World) (hcv : ∃ a n k, cvt = .slice a n k) (hR : RowsAt w B A ll) (hl : Reads w B 2 Am l.length (insCells l)) (hB : B ≤ w.heap.size) (hlen : ∀ l ∈ ll, l.length ≤ 1000000000000) (hn : l.length ≤ 1000000000000) :
    Calls Try.prog 17 #[.agg #[.slice A ll.length c, .slice Am l.length cm, cvt, .int .i64 size]] w (WholePost w (Bd.program ll l)) := by
  obtain ⟨ca, cn, ck, rfl⟩ := hcv
  have hfl := Bd.funcs_len ll
  obtain ⟨r, hr⟩ : ∃ r, r = Bd.funcs ll := ⟨_, rfl⟩
  have hpr : Bd.program ll l = if r.2.2 ≠ 0 then (⟨0, 0, 0, 0⟩, r.2.2) else Bd.whole l r.1 := by unfold Bd.program; rw [hr]
  rw [← hr] at hfl
  have HFU := Lib.hid (fun W h => funcs_any A c B ll W h)
  rw [← hr] at HFU
  obtain ⟨cs, ra, rr⟩ := r
  simp only at hpr hfl
  have HPR := Lib.hid hpr
  have HR := Lib.hid hR
  have HL := Lib.hid hl
  have HLEN := Lib.hid hlen
  have HN := Lib.hid hn
  clear hpr hr hR hl hlen hn
  have HWH := Lib.hid (fun Af cf B' W h1 h2 h3 => whole_any Am Af cm cf B' l cs W h1 h2 h3)
  generalize hln : l.length = n at *
  generalize ll.length = m at *
  have HLN := Lib.hid hln
  clear hln
  go_enter Try.func17, Try.ntmps17
  go_wp2_with fail
  refine (HFU.out _ (by exact (HR.out.below ((Below.refl _ _).alloc (Nat.le_refl _) _) hB).below ((Below.refl _ _).alloc (Nat.le_refl _) _) (by simp; omega)) (by simp; omega) HLEN.out).mono ?_
  rintro e w1 ⟨A1, c1, rfl, hrd, hb1⟩
  simp only
  have hbw : Below w.heap.size w w1 := (((Below.refl _ _).alloc (Nat.le_refl _) _).alloc (by simp) _).trans (hb1.mono (by simp; omega))
  have hz := hb1.size
  simp at hz
  have q0 : w1.cell? ⟨w.heap.size + 1, 0, none⟩ = some (.int .i64 0) := by rw [hb1.cell (by simp)]; simp [go_sem]
  have q1 : w1.cell? ⟨w.heap.size + 1, 1, none⟩ = some (.int .i64 0) := by rw [hb1.cell (by simp)]; simp [go_sem]
  have q2 : w1.cell? ⟨w.heap.size + 1, 2, none⟩ = some (.int .i64 0) := by rw [hb1.cell (by simp)]; simp [go_sem]
  have q3 : w1.cell? ⟨w.heap.size + 1, 3, none⟩ = some (.int .i64 0) := by rw [hb1.cell (by simp)]; simp [go_sem]
  have z : ∀ o, w1.frozen? ⟨w.heap.size + 1, o, none⟩ = false := fun o => by rw [hb1.frozen (by simp)]; simp [go_sem]
  have p1 : w1.cell? ⟨w.heap.size, 1, none⟩ = some (.slice Am n cm) := by rw [hb1.cell (by simp; omega)]; simp [go_sem]
  have y3 : w.heap.size + 1 < w1.heap.size := by omega
  have HRD := Lib.hid hrd
  clear hb1 hrd
  by_cases he : rr = 0
  · subst he
    have hpr := HPR.out
    rw [if_neg (by simp)] at hpr
    have HPR2 := Lib.hid hpr
    have hLw := HL.out.below hbw hB
    have HLW := Lib.hid hLw
    clear hpr HPR hLw
    go_wp2_with fail
    refine (HWH.out _ _ w1.heap.size _ (by exact HLW.out.more (by omega)) (by exact HRD.out) (Nat.le_refl _) HN.out (by omega)).mono ?_
    rintro e w2 ⟨rfl, hb2⟩
    rw [← HPR2.out]
    generalize Bd.program ll l = pr at *
    obtain ⟨⟨c0, c1', c2, c3⟩, pe⟩ := pr
    simp only [costV]
    have q0' : w2.cell? ⟨w.heap.size + 1, 0, none⟩ = some (.int .i64 0) := by rw [hb2.cell y3]; exact q0
    have q1' : w2.cell? ⟨w.heap.size + 1, 1, none⟩ = some (.int .i64 0) := by rw [hb2.cell y3]; exact q1
    have q2' : w2.cell? ⟨w.heap.size + 1, 2, none⟩ = some (.int .i64 0) := by rw [hb2.cell y3]; exact q2
    have q3' : w2.cell? ⟨w.heap.size + 1, 3, none⟩ = some (.int .i64 0) := by rw [hb2.cell y3]; exact q3
    have z' : ∀ o, w2.frozen? ⟨w.heap.size + 1, o, none⟩ = false := fun o => by rw [hb2.frozen y3]; exact z o
    have hbw2 : Below w.heap.size w w2 := hbw.trans (hb2.mono (by omega))
    clear q0 q1 q2 q3 z p1 HPR2
    go_wp2
    refine bodyPost_ret (v := .tuple #[.agg #[.int .i64 c0, .int .i64 c1', .int .i64 c2, .int .i64 c3], .int .i64 pe]) (by simp [results, Try.results17, go_sem, q0', q1', q2', q3']) rfl ⟨rfl, (by repeat (first | exact Below.refl _ _ | assumption | (refine Below.setCell ?_ (by first | omega | (simp; done) | (simp; omega)) _) | (refine Below.drew ?_) | (refine below_drewN ?_ _) | (refine Below.alloc ?_ (by first | omega | (simp; done) | (simp; omega)) _)))⟩
  · have hpr := HPR.out
    rw [if_pos he] at hpr
    have HPR2 := Lib.hid hpr
    have h2 : (rr != 0) = true := by simpa using he
    clear hpr HPR he
    go_wp2
    refine bodyPost_ret (v := .tuple #[.agg #[.int .i64 0, .int .i64 0, .int .i64 0, .int .i64 0], .int .i64 rr]) (by simp [results, Try.results17, go_sem, q0, q1, q2, q3]) rfl ⟨by rw [HPR2.out]; rfl, (by repeat (first | exact Below.refl _ _ | assumption | (refine Below.setCell ?_ (by first | omega | (simp; done) | (simp; omega)) _) | (refine Below.drew ?_) | (refine below_drewN ?_ _) | (refine Below.alloc ?_ (by first | omega | (simp; done) | (simp; omega)) _)))⟩
end Go.Proofs.Ytgklchhgpnoliaa

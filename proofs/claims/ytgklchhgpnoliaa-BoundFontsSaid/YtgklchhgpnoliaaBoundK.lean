/- bound.Code: its contract. -/
import Derived.Test.YtgklchhgpnoliaaBoundJ
namespace Go.Proofs.Ytgklchhgpnoliaa
open Go.RowKit

def costV (c : Bd.Cost) : Value := .agg #[.int .i64 c.need, .int .i64 c.delta, .int .i64 c.peak, .int .i64 c.steps]
/-- what Code hands back -/
def CodePost (w : World) (r : Bd.Cost × Int × Int) (e : Ending) (w' : World) : Prop := e = .returned (.tuple #[costV r.1, .int .i64 r.2.1, .int .i64 r.2.2]) ∧ Below w.heap.size w w'

set_option maxHeartbeats 2000000 in
theorem code_any (Ac Af : Option Addr) (n cc m cf B : Nat) (l : List (Int × Int)) (fs : List Bd.Cost) (w : World) (hl : Reads w B 2 Ac n (insCells l)) (hF : Reads w B 4 Af m (costCells fs)) (hB : B ≤ w.heap.size) (hnl : n = l.length) (hm : m = fs.length) (hn : n ≤ 1000000000000) (hm1 : m ≤ 1000000000000) :
    Calls Try.prog 12 #[.slice Ac n cc, .slice Af m cf] w (CodePost w (Bd.code l fs)) := by
  have HL := Lib.hid hl
  have HFR := Lib.hid hF
  have HNL := Lib.hid hnl
  have HM := Lib.hid hm
  clear hl hF hnl hm
  go_enter Try.func12, Try.ntmps12
  go_wp2_with fail
  go_loopw [16] (fun i wr => ∃ k : Nat, k ≤ m ∧ i = .int .i64 k ∧ (∀ c ∈ fs.take k, Bd.mayBe c = true) ∧ Below (w.heap.size + 1) (w.alloc (.cells #[.int .i64 0, .int .i64 0, .int .i64 0, .int .i64 0] 28)) wr) (fun i _ => m - (intOf i).toNat)
  case atStart => exact ⟨0, by omega, rfl, by simp, Below.refl _ _⟩
  case round =>
    obtain ⟨k, hk, rfl, hall, hb⟩ := hrel
    have HALL := Lib.hid hall
    clear hall
    have hsz := hb.size
    simp at hsz
    have r0 : wr.cell? ⟨w.heap.size, 0, none⟩ = some (.int .i64 0) := by rw [hb.cell (by simp)]; simp [go_sem]
    have r1 : wr.cell? ⟨w.heap.size, 1, none⟩ = some (.int .i64 0) := by rw [hb.cell (by simp)]; simp [go_sem]
    have r2 : wr.cell? ⟨w.heap.size, 2, none⟩ = some (.int .i64 0) := by rw [hb.cell (by simp)]; simp [go_sem]
    have r3 : wr.cell? ⟨w.heap.size, 3, none⟩ = some (.int .i64 0) := by rw [hb.cell (by simp)]; simp [go_sem]
    by_cases hlt : k < m
    · have hFr : Reads wr B 4 Af m (costCells fs) := (HFR.out.alloc hB _).below hb (by omega)
      obtain ⟨c, hc⟩ : ∃ c, fs[k]? = some c := ⟨_, List.getElem?_eq_getElem (by have := HM.out; omega)⟩
      obtain ⟨b, off, rfl, hbB, hcells⟩ := hFr.2 (by omega)
      obtain ⟨g0, g1, g2, g3⟩ := costCells_at fs k c hc
      have d0 := hcells _ _ g0
      have d1 := hcells _ _ g1
      have d2 := hcells _ _ g2
      have d3 := hcells _ _ g3
      rw [← Nat.add_assoc] at d1 d2 d3
      have HC := Lib.hid hc
      clear hcells g0 g1 g2 g3 hc hFr
      obtain ⟨cn, cd, cp, cs⟩ := c
      simp only at d0 d1 d2 d3
      go_wp2_with fail
      refine (mayBe_any ⟨cn, cd, cp, cs⟩ _).mono ?_
      rintro e w1 ⟨rfl, hb1⟩
      have hb2 : Below (w.heap.size + 1) (w.alloc (.cells #[.int .i64 0, .int .i64 0, .int .i64 0, .int .i64 0] 28)) w1 := (hb.alloc (by omega) _).trans (hb1.mono (by simp; omega))
      cases hmb : Bd.mayBe ⟨cn, cd, cp, cs⟩ with
      | true =>
        have HMB := Lib.hid hmb
        clear hmb
        clear r0 r1 r2 r3 d0 d1 d2 d3 hb1
        go_wp2
        go_roundw
        case rel => exact ⟨k + 1, by omega, by go_num, by
          intro c' hc'
          rw [List.take_add_one, HC.out] at hc'
          rcases List.mem_append.1 hc' with h | h
          · exact HALL.out c' h
          · simp at h; subst h; exact HMB.out, hb2⟩
        case measure => simp [intOf]; omega
      | false =>
        have hcode : Bd.code l fs = (⟨0, 0, 0, 0⟩, 0, 1) := by
          unfold Bd.code
          rw [if_neg]
          intro hh
          have := List.all_eq_true.1 hh _ (List.mem_of_getElem? HC.out)
          rw [hmb] at this
          cases this
        have HCODE := Lib.hid hcode
        have q0 : w1.cell? ⟨w.heap.size, 0, none⟩ = some (.int .i64 0) := by rw [hb2.cell (by simp)]; simp [go_sem]
        have q1 : w1.cell? ⟨w.heap.size, 1, none⟩ = some (.int .i64 0) := by rw [hb2.cell (by simp)]; simp [go_sem]
        have q2 : w1.cell? ⟨w.heap.size, 2, none⟩ = some (.int .i64 0) := by rw [hb2.cell (by simp)]; simp [go_sem]
        have q3 : w1.cell? ⟨w.heap.size, 3, none⟩ = some (.int .i64 0) := by rw [hb2.cell (by simp)]; simp [go_sem]
        have z : ∀ o, w1.frozen? ⟨w.heap.size, o, none⟩ = false := fun o => by rw [hb2.frozen (by simp)]; simp [go_sem]
        clear hmb hcode r0 r1 r2 r3 d0 d1 d2 d3 hb1
        go_wp2
        refine bodyPost_ret (v := .tuple #[.agg #[.int .i64 0, .int .i64 0, .int .i64 0, .int .i64 0], .int .i64 0, .int .i64 1]) (by simp [results, Try.results12, go_sem, q0, q1, q2, q3]) rfl ⟨by rw [HCODE.out]; rfl, ?_⟩
        have hb3 : Below w.heap.size w w1 := ((Below.refl _ _).alloc (Nat.le_refl _) _).trans (hb2.mono (by omega))
        exact ((((hb3.setCell (Nat.le_refl _) _).setCell (Nat.le_refl _) _).setCell (Nat.le_refl _) _).setCell (Nat.le_refl _) _)
    · obtain ⟨wo, rfl⟩ : ∃ wo : World, wo = wr := ⟨_, rfl⟩
      have hkm : k = m := by omega
      have hmay : fs.all Bd.mayBe = true := by
        rw [List.all_eq_true]
        intro c hc
        have := HALL.out c
        rw [hkm, HM.out, List.take_length] at this
        exact this hc
      have hcode : Bd.code l fs = Bd.rest l.length fs l 0 (Bd.start l.length) := by unfold Bd.code; rw [if_pos hmay]
      have HMAY := Lib.hid hmay
      have HCODE := Lib.hid hcode
      have HKM := Lib.hid hkm
      clear hmay hcode hkm r0 r1 r2 r3
      go_wp2_with fail
      refine (begin_any Ac Af n cc m cf _ hn).mono ?_
      rintro e w1 ⟨rfl, hw1⟩
      have hb0 : Below (w.heap.size + 1) (w.alloc (.cells #[.int .i64 0, .int .i64 0, .int .i64 0, .int .i64 0] 28)) w1 := by rw [← hw1]; exact (hb.alloc (by omega) _).alloc (by simp; omega) _
      have hpf : PfAt w1 (wo.heap.size + 1) wo.heap.size B Ac Af n cc m cf fs (Bd.start n) := by
        refine ⟨?_, ?_, (HFR.out.alloc hB _).below hb0 (by omega), by have := hb0.size; simp at this; omega, by omega, by omega, HM.out, by simp [Bd.start]⟩
        · rw [← hw1]; exact Blk.new_at _ _ _ (by simp)
        · rw [← hw1]; exact (Blk.new _ _ _).alloc _
      have HPF := Lib.hid hpf
      have HCODE2 := Lib.hid (show Bd.code l fs = Bd.rest n fs (l.drop 0) ((0 : Nat) : Int) (Bd.start n) by rw [HCODE.out, HNL.out]; rfl)
      clear hw1 hpf HCODE
      go_wp2_with fail
      go_loopw [30] (fun i w2 => ∃ (k : Nat) (st : Bd.St), k ≤ n ∧ i = .int .i64 k ∧ PfAt w2 (wo.heap.size + 1) wo.heap.size B Ac Af n cc m cf fs st ∧ Bd.Ok n st ∧ Bd.code l fs = Bd.rest n fs (l.drop k) k st ∧ Below (w.heap.size + 1) (w.alloc (.cells #[.int .i64 0, .int .i64 0, .int .i64 0, .int .i64 0] 28)) w2) (fun i _ => n - (intOf i).toNat)
      case atStart => exact ⟨0, _, by omega, rfl, HPF.out, Bd.start_ok n, HCODE2.out, hb0⟩
      case round =>
        clear HPF HCODE2 hb0 HALL
        obtain ⟨j, st, hj, rfl, hpf, hok, hrest, hb2⟩ := hrel
        have HREST := Lib.hid hrest
        have HOK := Lib.hid hok
        have HPF := Lib.hid hpf
        have hsz2 := hb2.size
        simp at hsz2
        clear hrest hok hpf
        by_cases hjn : j < n
        · have hLr : Reads wr B 2 Ac n (insCells l) := (HL.out.alloc hB _).below hb2 (by omega)
          obtain ⟨x, hx⟩ : ∃ x, l[j]? = some x := ⟨_, List.getElem?_eq_getElem (by have := HNL.out; omega)⟩
          obtain ⟨b, off, rfl, hbB, hcells⟩ := hLr.2 (by omega)
          obtain ⟨g0, g1⟩ := insCells_at l j x hx
          have d0 := hcells _ _ g0
          have d1 := hcells _ _ g1
          rw [← Nat.add_assoc] at d1
          have hdrop : l.drop j = x :: l.drop (j + 1) := by
            have hjl : j < l.length := by have := HNL.out; omega
            rw [List.drop_eq_getElem_cons hjl]
            rw [List.getElem?_eq_getElem hjl] at hx
            injection hx with hx
            rw [hx]
          have HDROP := Lib.hid hdrop
          clear hcells g0 g1 hx hLr hdrop
          obtain ⟨op, a⟩ := x
          simp only at d0 d1
          go_wp2_with fail
          refine (look_any (wo.heap.size + 1) wo.heap.size B (some ⟨b, off, none⟩) Af n cc m cf fs st j op a _ (by exact HPF.out.below ((Below.refl _ _).alloc (Nat.le_refl _) _)) HOK.out HMAY.out (by omega) (by omega) (by omega)).mono ?_
          rintro e w3 ⟨rfl, hpf3, hfr3⟩
          have hb3 : Below (w.heap.size + 1) (w.alloc (.cells #[.int .i64 0, .int .i64 0, .int .i64 0, .int .i64 0] 28)) w3 := (hb2.alloc (by omega) _).trans (hfr3.below (by simp; omega) (fun k hk => by omega))
          have HPF3 := Lib.hid hpf3
          clear d0 d1 hpf3 hfr3 HPF
          by_cases hr : (Bd.look n fs st j (op, a)).1 = 0
          · have hok3 := Bd.look_ok HMAY.out HOK.out hr
            have HOK3 := Lib.hid hok3
            have hrest3 : Bd.code l fs = Bd.rest n fs (l.drop (j + 1)) ((j + 1 : Nat) : Int) (Bd.look n fs st j (op, a)).2 := by
              rw [HREST.out, HDROP.out, Bd.rest, if_neg (by rw [hr]; simp)]
              rw [show ((j + 1 : Nat) : Int) = (j : Int) + 1 by omega]
            have HREST3 := Lib.hid hrest3
            rw [hr]
            generalize Bd.look n fs st j (op, a) = rr at *
            clear hr hok3 hrest3 HREST HOK HDROP
            go_wp2
            go_roundw
            case rel => exact ⟨j + 1, rr.2, by omega, by go_num, HPF3.out, HOK3.out, HREST3.out, hb3⟩
            case measure => simp [intOf]; omega
          · have hrest3 : Bd.code l fs = (⟨0, 0, 0, 0⟩, (j : Int), (Bd.look n fs st j (op, a)).1) := by
              rw [HREST.out, HDROP.out, Bd.rest, if_pos hr]
            have HREST3 := Lib.hid hrest3
            have hrb : ((Bd.look n fs st j (op, a)).1 != 0) = true := by simpa using hr
            generalize (Bd.look n fs st j (op, a)).1 = rr at *
            have q0 : w3.cell? ⟨w.heap.size, 0, none⟩ = some (.int .i64 0) := by rw [hb3.cell (by simp)]; simp [go_sem]
            have q1 : w3.cell? ⟨w.heap.size, 1, none⟩ = some (.int .i64 0) := by rw [hb3.cell (by simp)]; simp [go_sem]
            have q2 : w3.cell? ⟨w.heap.size, 2, none⟩ = some (.int .i64 0) := by rw [hb3.cell (by simp)]; simp [go_sem]
            have q3 : w3.cell? ⟨w.heap.size, 3, none⟩ = some (.int .i64 0) := by rw [hb3.cell (by simp)]; simp [go_sem]
            have z : ∀ o, w3.frozen? ⟨w.heap.size, o, none⟩ = false := fun o => by rw [hb3.frozen (by simp)]; simp [go_sem]
            clear hr hrest3 HREST HOK HDROP HPF3
            go_wp2
            refine bodyPost_ret (v := .tuple #[.agg #[.int .i64 0, .int .i64 0, .int .i64 0, .int .i64 0], .int .i64 j, .int .i64 rr]) (by simp [results, Try.results12, go_sem, q0, q1, q2, q3]) rfl ⟨by rw [HREST3.out]; rfl, ?_⟩
            have hb4 : Below w.heap.size w w3 := ((Below.refl _ _).alloc (Nat.le_refl _) _).trans (hb3.mono (by omega))
            exact ((((hb4.setCell (Nat.le_refl _) _).setCell (Nat.le_refl _) _).setCell (Nat.le_refl _) _).setCell (Nat.le_refl _) _)
        · have hjn2 : j = n := by omega
          have hlen := HPF.out.hl
          obtain ⟨q, hq⟩ : ∃ q, st.pl[n]? = some q := ⟨_, List.getElem?_eq_getElem (by omega)⟩
          have hpat : Bd.pat st.pl (n : Int) = q := by unfold Bd.pat; rw [List.getD_eq_getElem?_getD]; simp [hq]
          have hrest3 : Bd.code l fs = (⟨st.need, q.high, st.peak, q.steps⟩, 0, 0) := by
            have hd : l.drop j = [] := List.drop_eq_nil_of_le (by have := HNL.out; omega)
            rw [HREST.out, hd, Bd.rest, hjn2, hpat]
          have HREST3 := Lib.hid hrest3
          obtain ⟨g0, g1, g2⟩ := plCells_at st.pl n q hq
          have u2 : wr.cell? ⟨wo.heap.size + 1, 2, none⟩ = some (.slice (some ⟨wo.heap.size, 0, none⟩) (n + 1) (n + 1)) := by rw [HPF.out.hP.cell]; rfl
          have u3 : wr.cell? ⟨wo.heap.size + 1, 3, none⟩ = some (.int .i64 st.need) := by rw [HPF.out.hP.cell]; rfl
          have u4 : wr.cell? ⟨wo.heap.size + 1, 4, none⟩ = some (.int .i64 st.peak) := by rw [HPF.out.hP.cell]; rfl
          have d0 : wr.cell? ⟨wo.heap.size, n * 3, none⟩ = some (.bool q.known) := by rw [HPF.out.hG.cell]; simpa using g0
          have d1 : wr.cell? ⟨wo.heap.size, n * 3 + 1, none⟩ = some (.int .i64 q.high) := by rw [HPF.out.hG.cell]; simpa using g1
          have d2 : wr.cell? ⟨wo.heap.size, n * 3 + 2, none⟩ = some (.int .i64 q.steps) := by rw [HPF.out.hG.cell]; simpa using g2
          have q0 : wr.cell? ⟨w.heap.size, 0, none⟩ = some (.int .i64 0) := by rw [hb2.cell (by simp)]; simp [go_sem]
          have q1 : wr.cell? ⟨w.heap.size, 1, none⟩ = some (.int .i64 0) := by rw [hb2.cell (by simp)]; simp [go_sem]
          have q2 : wr.cell? ⟨w.heap.size, 2, none⟩ = some (.int .i64 0) := by rw [hb2.cell (by simp)]; simp [go_sem]
          have q3 : wr.cell? ⟨w.heap.size, 3, none⟩ = some (.int .i64 0) := by rw [hb2.cell (by simp)]; simp [go_sem]
          have z : ∀ o, wr.frozen? ⟨w.heap.size, o, none⟩ = false := fun o => by rw [hb2.frozen (by simp)]; simp [go_sem]
          have y1 : wo.heap.size + 1 < wr.heap.size := HPF.out.hP.lt
          have y2 : wo.heap.size < wr.heap.size := by omega
          have y3 : w.heap.size < wr.heap.size := by omega
          have y4 : wo.heap.size + 1 ≠ w.heap.size := by omega
          have y5 : w.heap.size ≠ wo.heap.size + 1 := by omega
          have y6 : wr.heap.size ≠ w.heap.size := by omega
          have y7 : w.heap.size ≠ wr.heap.size := by omega
          obtain ⟨qk, qh, qs⟩ := q
          simp only at d0 d1 d2 HREST3
          have HJ := Lib.hid hjn2
          clear hrest3 HREST HOK HPF hq hpat g0 g1 g2 hlen hjn2
          go_wp2_with fail
          go_region_held3 (fun w' => w'.cell? ⟨wo.heap.size + 1, 3, none⟩ = some (.int .i64 st.need) ∧ w'.cell? ⟨wo.heap.size + 1, 4, none⟩ = some (.int .i64 st.peak) ∧ w'.cell? ⟨wr.heap.size, 1, none⟩ = some (.int .i64 qh) ∧ w'.cell? ⟨wr.heap.size, 2, none⟩ = some (.int .i64 qs)) (first | (go_keep; done) | (refine ⟨?_, ?_, ?_, ?_⟩ <;> first | (go_keep; done) | (simp [go_sem]; done))) (first | fail)
          go_wp2
          refine bodyPost_ret (v := .tuple #[.agg #[.int .i64 st.need, .int .i64 qh, .int .i64 st.peak, .int .i64 qs], .int .i64 0, .int .i64 0]) (by simp [results, Try.results12, go_sem, q0, q1, q2, q3, y3]) rfl ⟨by rw [HREST3.out]; rfl, ?_⟩
          have hb4 : Below w.heap.size w wr := ((Below.refl _ _).alloc (Nat.le_refl _) _).trans (hb2.mono (by omega))
          exact ((((((hb4.setCell (Nat.le_refl _) _).setCell (Nat.le_refl _) _).setCell (Nat.le_refl _) _).setCell (Nat.le_refl _) _).alloc (by simp [World.setCell]; omega) _).drew)
end Go.Proofs.Ytgklchhgpnoliaa

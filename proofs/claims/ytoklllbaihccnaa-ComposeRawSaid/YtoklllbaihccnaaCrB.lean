/- The reference's below and All: their contracts. Expanded from XCrB.src by expand.py. -/
import Derived.Test.YtoklllbaihccnaaCrA
set_option linter.unusedVariables false
set_option linter.unusedSimpArgs false
namespace Go.Proofs.Ytoklllbaihccnaa
open Go.RowKit Go.Shelf
def bools (l : List Bool) : List Value := l.map Value.bool
theorem bools_len (l : List Bool) : (bools l).length = l.length := by simp [bools]
theorem bools_set (l : List Bool) (i : Nat) (b : Bool) : bools (l.set i b) = (bools l).set i (.bool b) := by simp [bools, List.map_set]
theorem bools_at {l : List Bool} {k : Nat} {b : Bool} (h : l[k]? = some b) : (bools l)[k]? = some (.bool b) := by simp [bools, h]
theorem info_bool4 : (Try.prog.info? 4).map (fun i => (i.zero, i.size, i.bytes)) = some (some (.bool false), 1, 1) := by kernel_rfl
theorem made_bools4 (n : Nat) : madeCells #[Value.bool false] n = (bools (List.replicate n false)).toArray := by
  unfold madeCells
  apply Array.toList_inj.1
  simp only [Array.toList_map, Array.toList_range, bools, List.map_replicate]
  rw [List.eq_replicate_iff]
  exact ⟨by simp, by intro b hb; simp at hb; obtain ⟨a, ha, rfl⟩ := hb; rw [show a % 1 = 0 by omega]; rfl⟩
theorem make_rowR {P : Program} (t e : TypeId) (i : TypeInfo) (z : Value) (ht : P.underlying t = some (.slice e)) (hi : P.info? e = some i) (hz : i.zero = some z)
    (n : Nat) (hbytes : i.bytes * n ≤ 281474976710656) (h63 : n ≤ 9223372036854775807) (w : World) :
    (Instr.makeSlice t (.int .i64 (n : Int)) (.int .i64 (n : Int))).run P w = .ok (.slice (some ⟨w.heap.size, 0, none⟩) n n) (w.alloc (.cells (madeCells z.cells (n * i.size)) e)) := by
  have hb : (i.bytes : Int) * (n : Int) ≤ 281474976710656 := by
    have h : ((i.bytes * n : Nat) : Int) ≤ 281474976710656 := by omega
    rwa [Int.natCast_mul] at h
  have hr := run_make (P := P) w t e i z ht hi hz .i64 .i64 n n (by omega) (by omega) hb (by omega)
  simp only [Int.toNat_natCast] at hr
  exact hr
theorem make_bools4 (n : Nat) (hn : n ≤ 1000000) (w : World) : (Instr.makeSlice 110 (.int .i64 (n : Int)) (.int .i64 (n : Int))).run Try.prog w = .ok (.slice (some ⟨w.heap.size, 0, none⟩) n n) (w.alloc (.cells (bools (List.replicate n false)).toArray 4)) := by
  obtain ⟨i, hi, hz0, hz1, hz2⟩ := info_m info_bool4
  have := make_rowR (P := Try.prog) 110 4 i _ Try.underlying110 hi hz0 n (by rw [hz2]; omega) (by omega) w
  rw [hz1, Nat.mul_one, show (Value.bool false).cells = #[.bool false] from rfl, made_bools4] at this
  exact this
theorem owns_fresh {W : World} {B size n : Nat} {t : TypeId} {xs : List Value} (hl : xs.length = n * size) (hB : B ≤ W.heap.size) (hn : n ≤ maxLen) : (W.alloc (.cells xs.toArray t)).ownsRow B t size (.slice (some ⟨W.heap.size, 0, none⟩) n n) n xs :=
  ⟨hl, .inr ⟨W.heap.size, n, xs.toArray, rfl, hB, Blk.new _ _ _, Nat.le_refl _, hn, by simpa using hl, by simp [← hl]⟩⟩
namespace Rf
def mark (bs : List Bool) (p : Prt) : List Bool := bs.set p.1.toNat true
def visit (gl : List Gl) (bs : List Bool) (a : Nat) : List Bool := if bs.getD a false = true then (partsOf gl a).foldl mark bs else bs
def round (gl : List Gl) (bs : List Bool) : List Bool := (List.range gl.length).foldl (visit gl) bs
def rounds (gl : List Gl) (k : Nat) (bs : List Bool) : List Bool := (List.range k).foldl (fun bs _ => round gl bs) bs
def start (gl : List Gl) (g : Nat) : List Bool := (partsOf gl g).foldl mark (List.replicate gl.length false)
def below (gl : List Gl) (g : Nat) : List Bool := rounds gl gl.length (start gl g)
theorem marks_len (l : List Prt) : ∀ bs : List Bool, (l.foldl mark bs).length = bs.length := by
  induction l with
  | nil => intro bs; rfl
  | cons p l ih => intro bs; rw [List.foldl_cons, ih]; unfold mark; simp
theorem visit_len (gl : List Gl) (bs : List Bool) (a : Nat) : (visit gl bs a).length = bs.length := by unfold visit; split; exact marks_len _ _; rfl
theorem visits_len (gl : List Gl) (l : List Nat) : ∀ bs : List Bool, (l.foldl (visit gl) bs).length = bs.length := by
  induction l with
  | nil => intro bs; rfl
  | cons p l ih => intro bs; rw [List.foldl_cons, ih, visit_len]
theorem rounds_succ (gl : List Gl) (k : Nat) (bs : List Bool) : rounds gl (k + 1) bs = round gl (rounds gl k bs) := by unfold rounds; rw [List.range_succ, List.foldl_append]; rfl
theorem rounds_len (gl : List Gl) (k : Nat) (bs : List Bool) : (rounds gl k bs).length = bs.length := by
  induction k with
  | zero => rfl
  | succ k ih => rw [rounds_succ, round, visits_len, ih]
end Rf
/-- what lies within below -/
structure BwI (w : World) (A : Option Addr) (n c ob : Nat) (bs : List Bool) (W : World) : Prop where
  font : Blk W w.heap.size 32 (fvC A n c).cs
  row : W.ownsRow w.heap.size 4 1 (.slice (some ⟨ob, 0, none⟩) n n) n (bools bs)
  below : Below w.heap.size w W
theorem BwI.grow {w W W' : World} {A : Option Addr} {n c ob : Nat} {bs : List Bool} (h : BwI w A n c ob bs W) (hg : Grow W W') : BwI w A n c ob bs W' :=
  ⟨hg.blk h.font fun x => x, owns_grow h.row hg, h.below.trans (Grow.below hg h.below.size)⟩
theorem BwI.below' {w W W' : World} {A : Option Addr} {n c ob : Nat} {bs : List Bool} (h : BwI w A n c ob bs W) (hb : Below W.heap.size W W') : BwI w A n c ob bs W' := h.grow (Fr.of_below hb fun k hk _ => hk)
theorem BwI.set {w W : World} {A : Option Addr} {n c ob : Nat} {bs : List Bool} (h : BwI w A n c ob bs W) (i : Nat) (b : Bool) : BwI w A n c ob (bs.set i b) (W.setCell ⟨ob, i, none⟩ (.bool b)) := by
  obtain ⟨hob, _, cs, hb⟩ := owns_block h.row rfl
  refine ⟨h.font.far (p := ⟨ob, i, none⟩) (h.font.ne_ hb (by decide)) _, ?_, h.below.setCell (p := ⟨ob, i, none⟩) hob _⟩
  rw [bools_set]
  exact owns_setRow h.row i (.bool b)
theorem BwI.cells {w W : World} {A : Option Addr} {n c ob : Nat} {bs : List Bool} (h : BwI w A n c ob bs W) (i : Nat) {b : Bool} (hi : bs[i]? = some b) : W.cell? ⟨ob, i, none⟩ = some (.bool b) ∧ W.frozen? ⟨ob, i, none⟩ = false ∧ ob < W.heap.size := by
  obtain ⟨_, hl, cs, hb⟩ := owns_block h.row rfl
  exact ⟨owns_cell h.row (bools_at hi), hb.frozen i, hl⟩
theorem keep_parts {w W : World} {base ob i n : Nat} {v u : Value} {xs : List Value} {A : Option Addr} {m c : Nat} {bs : List Bool} (h : W.ownsRow base 48 3 v n xs) (k : BwI w A m c ob bs W) : (W.setCell ⟨ob, i, none⟩ u).ownsRow base 48 3 v n xs := by
  obtain ⟨_, _, cs, hb⟩ := owns_block k.row rfl
  exact owns_set h hb (by decide) i u
set_option maxRecDepth 100000 in
set_option maxHeartbeats 4000000 in
theorem below_any (A : Option Addr) (n c g : Nat) (gl : List Gl) (w : World) (hn : n = gl.length) (hf : FAt w w.heap.size A gl) (h12 : n ≤ 12) (hg : g < n) :
    Calls Try.prog 47 #[.agg (fvC A n c).cs, .int .i64 g] w fun e w' => ∃ v, e = .returned v ∧ w'.ownsRow w.heap.size 4 1 v n (bools (Rf.below gl g)) ∧ Below w.heap.size w w' := by
  have HF := Lib.hid hf
  have HN := Lib.hid hn
  have hmk := make_bools4 n (by omega)
  clear hf hn
  go_enter Try.func47, Try.ntmps47
  go_wp2_with fail
  obtain ⟨W1, hW1⟩ : ∃ W1, (w.alloc (.cells (fvC A n c).cs 32)).alloc (.cells (bools (List.replicate n false)).toArray 4) = W1 := ⟨_, rfl⟩
  have hI1 : BwI w A n c (w.heap.size + 1) (List.replicate n false) W1 := by
    rw [← hW1]
    refine ⟨(Blk.new _ _ _).alloc _, ?_, ((Below.refl _ _).alloc (Nat.le_refl _) _).alloc (by simp) _⟩
    have := owns_fresh (W := w.alloc (.cells (fvC A n c).cs 32)) (B := w.heap.size) (size := 1) (n := n) (t := 4) (xs := bools (List.replicate n false)) (by simp [bools]) (by simp) (by unfold maxLen; omega)
    simpa using this
  rw [hW1]
  have HI1 := Lib.hid hI1
  clear hW1 hI1
  refine (rparts_any A n c g gl W1 HN.out ((HF.out.below HI1.out.below (Nat.le_refl _)).more HI1.out.below.size) h12 hg).mono ?_
  rintro e w2 ⟨v, rfl, hrow, hb⟩
  have HI := Lib.hid (HI1.out.below' hb)
  have HP := Lib.hid (parts_few HF.out)
  have hs1 := HI1.out.below.size
  clear HI1 hb
  obtain ⟨L, hL⟩ : ∃ L, partsOf gl g = L := ⟨_, rfl⟩
  rw [hL] at hrow
  obtain ⟨m, hm⟩ : ∃ m, m = L.length := ⟨_, rfl⟩
  rw [← hm] at hrow
  obtain ⟨vA, vc, rfl, hvc, _⟩ := owns_form hrow
  have hm1000 : m ≤ 1000 := by rw [hm, ← hL]; exact HP.out _
  have HROW := Lib.hid (owns_mono hrow (hs1))
  have HL := Lib.hid hL
  have HM := Lib.hid hm
  clear hrow hL hm
  go_wp2_with fail
  go_loopw [7] (fun i wr => ∃ k : Nat, k ≤ m ∧ i = .int .i64 k ∧ BwI w A n c (w.heap.size + 1) ((L.take k).foldl Rf.mark (List.replicate n false)) wr ∧ wr.ownsRow w.heap.size 48 3 (.slice vA m vc) m (prts L)) (fun i _ => m - (intOf i).toNat)
  case atStart => exact ⟨0, Nat.zero_le _, rfl, HI.out, HROW.out⟩
  case round =>
    obtain ⟨k, hk, rfl, hI, hro⟩ := hrel
    have HI3 := Lib.hid hI
    have HRO := Lib.hid hro
    clear hI hro
    by_cases hlt : k < m
    · obtain ⟨⟨pg, px, py⟩, hpk⟩ : ∃ p, L[k]? = some p := ⟨_, List.getElem?_eq_getElem (by have := HM.out; omega)⟩
      obtain ⟨c1, _, _⟩ := prts_at hpk
      have hpin := (mem_psOf (show (pg, px, py) ∈ psOf gl.length _ from by have h := List.mem_of_getElem? hpk; rw [← HL.out] at h; exact h)).2
      simp only at hpin
      obtain ⟨q, rfl⟩ := Int.eq_ofNat_of_zero_le hpin.1
      obtain ⟨vb, vcc, hv, _, _, hvl, hcell⟩ := owns_at HRO.out (by omega)
      injection hv with hv1 hv2 hv3
      subst hv1
      clear hv2 hv3
      have z0 := hcell _ _ c1
      have hqn : q < n := by have := HN.out; omega
      have hbl : ((L.take k).foldl Rf.mark (List.replicate n false)).length = n := by have h := HI3.out.row.1; rw [bools_len] at h; omega
      obtain ⟨bq, hbq⟩ : ∃ b, ((L.take k).foldl Rf.mark (List.replicate n false))[q]? = some b := ⟨_, List.getElem?_eq_getElem (by omega)⟩
      obtain ⟨x0, xf, xl⟩ := HI3.out.cells q hbq
      have htk : (L.take (k + 1)).foldl Rf.mark (List.replicate n false) = ((L.take k).foldl Rf.mark (List.replicate n false)).set q true := by rw [List.take_add_one, hpk, List.foldl_append]; rfl
      have HTK := Lib.hid htk
      clear hpk c1 hpin hcell hbl hbq htk
      go_wp2_with fail
      go_roundw
      case rel => exact ⟨k + 1, by omega, by go_num, by rw [HTK.out]; exact HI3.out.set q true, keep_parts HRO.out HI3.out⟩
      case measure => simp [intOf]; omega
    · obtain rfl : k = m := by omega
      have hst : (L.take k).foldl Rf.mark (List.replicate n false) = Rf.start gl g := by unfold Rf.start; rw [HL.out, ← HN.out, HM.out, List.take_length]
      have HI4 := Lib.hid (by have h := HI3.out; rw [hst] at h; exact h : BwI w A n c (w.heap.size + 1) (Rf.start gl g) wr)
      have HSL := Lib.hid (show (Rf.start gl g).length = n by unfold Rf.start; rw [Rf.marks_len, List.length_replicate, HN.out])
      have y1 := HI4.out.font.cell 1
      have yl := HI4.out.font.lt
      simp only [List.getElem?_toArray, List.getElem?_cons_zero, List.getElem?_cons_succ] at y1
      clear hst HI3 HRO
      go_wp2_with fail
      clear y1 yl
      go_loopw [8] (fun i wq => ∃ r : Nat, r ≤ n ∧ i = .int .i64 r ∧ BwI w A n c (w.heap.size + 1) (Rf.rounds gl r (Rf.start gl g)) wq) (fun i _ => n - (intOf i).toNat)
      case atStart => exact ⟨0, Nat.zero_le _, rfl, HI4.out⟩
      case round =>
        obtain ⟨r, hr, rfl, hI⟩ := hrel
        have HI5 := Lib.hid hI
        have y1 := hI.font.cell 1
        have yl := hI.font.lt
        simp only [List.getElem?_toArray, List.getElem?_cons_zero, List.getElem?_cons_succ] at y1
        clear hI
        by_cases hrn : r < n
        · go_wp2_with fail
          clear y1 yl
          go_loopw [9] (fun i wz => ∃ a : Nat, a ≤ n ∧ i = .int .i64 a ∧ BwI w A n c (w.heap.size + 1) ((List.range a).foldl (Rf.visit gl) (Rf.rounds gl r (Rf.start gl g))) wz) (fun i _ => n - (intOf i).toNat)
          case atStart => exact ⟨0, Nat.zero_le _, rfl, HI5.out⟩
          case round =>
            obtain ⟨a, ha, rfl, hI⟩ := hrel
            obtain ⟨bs, hbs⟩ : ∃ bs, (List.range a).foldl (Rf.visit gl) (Rf.rounds gl r (Rf.start gl g)) = bs := ⟨_, rfl⟩
            rw [hbs] at hI
            have hbl : bs.length = n := by rw [← hbs, Rf.visits_len, Rf.rounds_len, HSL.out]
            have hsuc : (List.range (a + 1)).foldl (Rf.visit gl) (Rf.rounds gl r (Rf.start gl g)) = Rf.visit gl bs a := by rw [List.range_succ, List.foldl_append, hbs]; rfl
            have HSUC := Lib.hid hsuc
            have HI := Lib.hid hI
            have HBS := Lib.hid hbs
            have HBL := Lib.hid hbl
            have y0 := hI.font.cell 0
            have y1 := hI.font.cell 1
            have y2 := hI.font.cell 2
            have y3 := hI.font.cell 3
            have y4 := hI.font.cell 4
            have y5 := hI.font.cell 5
            have y6 := hI.font.cell 6
            have y7 := hI.font.cell 7
            have y8 := hI.font.cell 8
            have yl := hI.font.lt
            simp only [List.getElem?_toArray, List.getElem?_cons_zero, List.getElem?_cons_succ] at y0 y1 y2 y3 y4 y5 y6 y7 y8
            clear hI hbs hsuc hbl
            by_cases han : a < n
            · obtain ⟨b, hb⟩ : ∃ b, bs[a]? = some b := ⟨_, List.getElem?_eq_getElem (by rw [HBL.out]; exact han)⟩
              obtain ⟨x0, xf, xl⟩ := HI.out.cells a hb
              have hgd : bs.getD a false = b := by rw [List.getD_eq_getElem?_getD, hb]; rfl
              have HGD := Lib.hid hgd
              clear hb hgd
              cases b with
              | true =>
                go_wp2_with fail
                refine (rparts_any A n c a gl wr HN.out ((HF.out.below HI.out.below (Nat.le_refl _)).more HI.out.below.size) h12 han).mono ?_
                rintro e w5 ⟨v, rfl, hrow, hb⟩
                have hs5 := HI.out.below.size
                have HI := Lib.hid (HI.out.below' hb)
                clear hb x0 xf xl y0 y1 y2 y3 y4 y5 y6 y7 y8 yl
                obtain ⟨L, hL⟩ : ∃ L, partsOf gl a = L := ⟨_, rfl⟩
                rw [hL] at hrow
                obtain ⟨m, hm⟩ : ∃ m, m = L.length := ⟨_, rfl⟩
                rw [← hm] at hrow
                obtain ⟨vA, vc, rfl, hvc, _⟩ := owns_form hrow
                have hm1000 : m ≤ 1000 := by rw [hm, ← hL]; exact HP.out _
                have HROW := Lib.hid (owns_mono hrow (hs5))
                have HL := Lib.hid hL
                have HM := Lib.hid hm
                clear hrow hL hm
                go_wp2_with fail
                go_loopw [10] (fun i wr => ∃ k : Nat, k ≤ m ∧ i = .int .i64 k ∧ BwI w A n c (w.heap.size + 1) ((L.take k).foldl Rf.mark (bs)) wr ∧ wr.ownsRow w.heap.size 48 3 (.slice vA m vc) m (prts L)) (fun i _ => m - (intOf i).toNat)
                case atStart => exact ⟨0, Nat.zero_le _, rfl, HI.out, HROW.out⟩
                case round =>
                  obtain ⟨k, hk, rfl, hI, hro⟩ := hrel
                  have HI3 := Lib.hid hI
                  have HRO := Lib.hid hro
                  clear hI hro
                  by_cases hlt : k < m
                  · obtain ⟨⟨pg, px, py⟩, hpk⟩ : ∃ p, L[k]? = some p := ⟨_, List.getElem?_eq_getElem (by have := HM.out; omega)⟩
                    obtain ⟨c1, _, _⟩ := prts_at hpk
                    have hpin := (mem_psOf (show (pg, px, py) ∈ psOf gl.length _ from by have h := List.mem_of_getElem? hpk; rw [← HL.out] at h; exact h)).2
                    simp only at hpin
                    obtain ⟨q, rfl⟩ := Int.eq_ofNat_of_zero_le hpin.1
                    obtain ⟨vb, vcc, hv, _, _, hvl, hcell⟩ := owns_at HRO.out (by omega)
                    injection hv with hv1 hv2 hv3
                    subst hv1
                    clear hv2 hv3
                    have z0 := hcell _ _ c1
                    have hqn : q < n := by have := HN.out; omega
                    have hbl : ((L.take k).foldl Rf.mark (bs)).length = n := by have h := HI3.out.row.1; rw [bools_len] at h; omega
                    obtain ⟨bq, hbq⟩ : ∃ b, ((L.take k).foldl Rf.mark (bs))[q]? = some b := ⟨_, List.getElem?_eq_getElem (by omega)⟩
                    obtain ⟨x0, xf, xl⟩ := HI3.out.cells q hbq
                    have htk : (L.take (k + 1)).foldl Rf.mark (bs) = ((L.take k).foldl Rf.mark (bs)).set q true := by rw [List.take_add_one, hpk, List.foldl_append]; rfl
                    have HTK := Lib.hid htk
                    clear hpk c1 hpin hcell hbl hbq htk
                    go_wp2_with fail
                    go_roundw
                    case rel => exact ⟨k + 1, by omega, by go_num, by rw [HTK.out]; exact HI3.out.set q true, keep_parts HRO.out HI3.out⟩
                    case measure => simp [intOf]; omega
                  · obtain rfl : k = m := by omega
                    go_wp2_with fail
                    go_roundw
                    case rel =>
                      refine ⟨a + 1, by omega, by go_num, ?_⟩
                      rw [HSUC.out]
                      unfold Rf.visit
                      rw [if_pos HGD.out, HL.out]
                      have h := HI3.out
                      rw [HM.out, List.take_length] at h
                      exact h
                    case measure => simp [intOf]; omega
              | false =>
                go_wp2_with fail
                go_roundw
                case rel =>
                  refine ⟨a + 1, by omega, by go_num, ?_⟩
                  rw [HSUC.out]
                  unfold Rf.visit
                  rw [if_neg (by rw [HGD.out]; decide)]
                  exact HI.out
                case measure => simp [intOf]; omega
            · obtain rfl : a = n := by omega
              go_wp2_with fail
              go_roundw
              case rel =>
                refine ⟨r + 1, by omega, by go_num, ?_⟩
                rw [Rf.rounds_succ]
                unfold Rf.round
                rw [← HN.out, HBS.out]
                exact HI.out
              case measure => simp [intOf]; omega
        · obtain rfl : r = n := by omega
          go_wp2_with fail
          go_ret
          refine ⟨_, rfl, ?_, HI5.out.below⟩
          unfold Rf.below
          rw [← HN.out]
          exact HI5.out.row
end Go.Proofs.Ytoklllbaihccnaa

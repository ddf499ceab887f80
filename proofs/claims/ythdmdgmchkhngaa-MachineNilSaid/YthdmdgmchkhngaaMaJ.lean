/- Points of the machine: has, where, put, and the deeds Get, Org, Move, Set, Align: their contracts. -/
import Derived.Test.YthdmdgmchkhngaaMaI
import Derived.Test.YthdmdgmchkhngaaSeqT
namespace Go.Proofs.Ythdmdgmchkhngaa
open Go.RowKit Mc

theorem has_any (w : World) (mb : Nat) (O : Nat → Prop) (L : Lay) (s : St) (h : MaL w mb O L s) (p : Int) :
    Calls Try.prog 93 #[.pointer (some ⟨mb, 0, none⟩), .int .i64 p] w fun e w' => e = .returned (.bool (has s p)) ∧ w = w' := by
  obtain ⟨A, c, hv, hc1, hc2⟩ := h.cu.form
  have c3 := h.blk.cell 3
  rw [h.c.c3, hv] at c3
  have hcl := h.ok.curl
  have HD : Hid (has s p = decide (0 ≤ p ∧ p < s.cur.length)) := Lib.hid rfl
  clear h hv hc1 hc2
  by_cases h0 : 0 ≤ p
  · by_cases h1 : p < s.cur.length
    · go_enter Try.func93, Try.ntmps93
      go_wp2
      go_ret
      exact ⟨ret_bool (by rw [HD.out]; simp; omega), rfl⟩
    · go_enter Try.func93, Try.ntmps93
      go_wp2
      go_ret
      exact ⟨ret_bool (by rw [HD.out]; simp; omega), rfl⟩
  · go_enter Try.func93, Try.ntmps93
    go_wp2
    go_ret
    exact ⟨ret_bool (by rw [HD.out]; simp; omega), rfl⟩

/-- a point's cell along an axis -/
theorem pts_coord {l : List (Int × Int)} {i : Nat} {v : Int × Int} (h : l[i]? = some v) (axis : Int) : (pts l)[i * 2 + (if axis = 1 then 1 else 0)]? = some (.int .i64 (coord axis v)) := by
  have := pts_get h
  unfold coord
  split
  · rw [Nat.mul_comm]; exact this.2
  · rw [Nat.mul_comm]; exact this.1
/-- where a point is among some -/
def lookV (s : St) (l : List (Int × Int)) (x : Int) : Int := if has s x then coord s.look (l.getD x.toNat (0, 0)) else 0
theorem lookV_yes {s : St} {l : List (Int × Int)} {i : Nat} {v : Int × Int} (h : has s i = true) (hv : l[i]? = some v) : lookV s l i = coord s.look v := by
  unfold lookV
  rw [if_pos h, Int.toNat_natCast, List.getD_eq_getElem?_getD, hv]
  rfl
theorem lookV_no {s : St} {l : List (Int × Int)} {x : Int} (h : ¬ has s x = true) : lookV s l x = 0 := by unfold lookV; rw [if_neg h]
theorem where_any (w : World) (mb : Nat) (O : Nat → Prop) (L : Lay) (s : St) (h : MaL w mb O L s) (x : Int) (r : List Int) (hs : s.stack = x :: r) (A : Option Addr) (l : List (Int × Int)) (c : Nat) (hll : l.length = s.cur.length)
    (hrow : Row w O 29 2 (.slice A l.length c) l.length (pts l)) :
    Calls Try.prog 71 #[.pointer (some ⟨mb, 0, none⟩), .slice A l.length c] w (MPost w mb O (push (lookV s l x) { s with stack := r })) := by
  have H := Lib.hid h
  have HS := Lib.hid hs
  have hl := h.ok.slen
  rw [hs, List.length_cons] at hl
  have hcl := h.ok.curl
  rw [← hll] at hcl
  have hlk := h.ok.look
  have HR := Lib.hid hrow
  have HLL := Lib.hid hll
  clear h hs hrow hll
  by_cases hx : has s x = true
  · have HX := Lib.hid hx
    have hx' := hx
    simp only [has, decide_eq_true_eq] at hx'
    rw [← HLL.out] at hx'
    obtain ⟨i, rfl⟩ : ∃ i : Nat, x = i := ⟨x.toNat, by omega⟩
    have hil : i < l.length := by omega
    obtain ⟨g, c', hv, _, _, hg, _⟩ := HR.out.at_ (by omega)
    injection hv with hv _ hc
    subst hv hc
    obtain ⟨v, hv⟩ : ∃ v, l[i]? = some v := ⟨_, List.getElem?_eq_getElem hil⟩
    have HV := Lib.hid hv
    clear hx hx' hv hg
    go_enter Try.func71, Try.ntmps71
    go_wp2_with fail
    refine (take1_new w mb O L s H.out _ r HS.out _).mono ?_
    rintro e w' ⟨rfl, ht, hb1⟩; obtain ⟨L', hM⟩ := ht.ma; have HM := Lib.hid hM; have HT := Lib.hid ht; have hlt := ht.lt; have b1 := hb1.cell 0; have b1l := hb1.lt; have b1f := hb1.frozen 0; simp only [List.getElem?_toArray, List.getElem?_cons_zero] at b1; clear ht hM hb1
    go_wp2_with fail
    refine (has_any w' mb O L' _ HM.out _).mono ?_
    rintro e w5 ⟨rfl, rfl⟩
    have hh : has { s with stack := r } (i : Int) = true := HX.out
    rw [hh]
    clear hh
    go_wp2_with fail
    have c42 := HM.out.blk.cell 42
    rw [HM.out.c.c42] at c42
    dsimp only at c42
    obtain ⟨g2, c2, hv2, _, _, hO, hgl, hc, hf⟩ := (HT.out.row (by decide) HR.out).at_ (by omega)
    injection hv2 with hv2
    injection hv2 with hv2
    injection hv2 with hv2
    subst hv2
    have d0 := hc _ _ (pts_coord HV.out s.look)
    clear hc hf
    generalize hd : (if s.look = 1 then 1 else 0 : Nat) = d at d0
    have HD := Lib.hid hd
    clear hd
    have hS : w'.drew.cell? ⟨mb, 42, none⟩ = some (.int .i64 s.look) ∧ w'.drew.cell? ⟨w.heap.size, 0, none⟩ = some (.int .i64 i) ∧ w'.drew.cell? ⟨g, i * 2 + d, none⟩ = some (.int .i64 (coord s.look v)) := ⟨c42, b1, d0⟩
    refine wp_region_seqT (fun i => !([7] : List Nat).contains i) (fun i => ([1, 6, 9] : List Nat).contains i) (fun i => ([] : List Nat).contains i) [0, 1, 2, 3, 4, 5, 6, 7, 8, 9, 10] (fun w' : World => w'.cell? ⟨mb, 42, none⟩ = some (.int .i64 s.look) ∧ w'.cell? ⟨w.heap.size, 0, none⟩ = some (.int .i64 i) ∧ w'.cell? ⟨g, i * 2 + d, none⟩ = some (.int .i64 (coord s.look v))) (by kernel_rfl) (by kernel_rfl) (by kernel_rfl) (by kernel_rfl) ?_
    refine wpSeq_pure (v := _) rfl rfl rfl (by kernel_rfl) (fun _ _ _ h => h) (fun wq => by first | (go_simp; done) | (go_simp; rfl)) ?_
    refine wpSeq_load (v := _) rfl rfl (by kernel_rfl) (fun _ _ _ h => h) hS rfl (fun wq hq => by (try have hq1 := hq.1); (try have hq2 := hq.2.1); (try have hq3 := hq.2.2.1); (try have hq4 := hq.2.2.2.1); (try have hq5 := hq.2.2.2.2.1); (try have hq6 := hq.2.2.2.2.2.1); (try have hq7 := hq.2.2.2.2.2.2); (try have hr2 := hq.2); (try have hr3 := hq.2.2); (try have hr4 := hq.2.2.2); (try have hr5 := hq.2.2.2.2); first | (go_simp; done) | (go_simp; rfl)) ?_
    refine wpSeq_pure (v := _) rfl rfl rfl (by kernel_rfl) (fun _ _ _ h => h) (fun wq => by first | (go_simp; done) | (go_simp; rfl)) ?_
    refine wpSeq_pure (v := _) rfl rfl rfl (by kernel_rfl) (fun _ _ _ h => h) (fun wq => by first | (go_simp; done) | (go_simp; rfl)) ?_
    refine wpSeq_pure (v := _) rfl rfl rfl (by kernel_rfl) (fun _ _ _ h => h) (fun wq => by first | (go_simp; done) | (go_simp; rfl)) ?_
    refine wpSeq_pure (v := _) rfl rfl rfl (by kernel_rfl) (fun _ _ _ h => h) (fun wq => by first | (go_simp; done) | (go_simp; rfl)) ?_
    refine wpSeq_load (v := _) rfl rfl (by kernel_rfl) (fun _ _ _ h => h) hS rfl (fun wq hq => by (try have hq1 := hq.1); (try have hq2 := hq.2.1); (try have hq3 := hq.2.2.1); (try have hq4 := hq.2.2.2.1); (try have hq5 := hq.2.2.2.2.1); (try have hq6 := hq.2.2.2.2.2.1); (try have hq7 := hq.2.2.2.2.2.2); (try have hr2 := hq.2); (try have hr3 := hq.2.2); (try have hr4 := hq.2.2.2); (try have hr5 := hq.2.2.2.2); first | (go_simp; done) | (go_simp; rfl)) ?_
    refine wpSeq_heavy rfl rfl (fun K hK => ?_); go_simp
    refine (coordinate_any _ _ _ _).mono ?_
    rintro e w5 ⟨rfl, rfl⟩
    rw [HD.out]
    dsimp only
    refine hK _ _ (fun h => by cases h) ?_; clear hK K
    refine wpSeq_pure (v := _) rfl rfl rfl (by kernel_rfl) (fun _ _ _ h => h) (fun wq => by first | (go_simp; done) | (go_simp; rfl)) ?_
    refine wpSeq_load (v := _) rfl rfl (by kernel_rfl) (fun _ _ _ h => h) hS rfl (fun wq hq => by (try have hq1 := hq.1); (try have hq2 := hq.2.1); (try have hq3 := hq.2.2.1); (try have hq4 := hq.2.2.2.1); (try have hq5 := hq.2.2.2.2.1); (try have hq6 := hq.2.2.2.2.2.1); (try have hq7 := hq.2.2.2.2.2.2); (try have hr2 := hq.2); (try have hr3 := hq.2.2); (try have hr4 := hq.2.2.2); (try have hr5 := hq.2.2.2.2); first | (go_simp; done) | (go_simp; rfl)) ?_
    refine wpSeq_pure (v := _) rfl rfl rfl (by kernel_rfl) (fun _ _ _ h => h) (fun wq => by first | (go_simp; done) | (go_simp; rfl)) ?_
    refine wpSeq_end ?_
    have HMD := Lib.hid HM.out.drew
    have HTF := Lib.hid HT.out.fr.drew
    go_wp2_with fail
    refine (leave1_new w'.drew mb O L' _ HMD.out _ (by simp only; omega)).mono ?_
    intro e w9 hp
    have HP := Lib.hid (hp.from_ HTF.out)
    obtain ⟨rfl, _⟩ := hp
    go_wp2
    go_end0
    rw [lookV_yes HX.out HV.out]
    exact HP.out
  · have HX := Lib.hid hx
    have hx' : has s x = false := by simpa using hx
    have HX' := Lib.hid hx'
    clear hx hx'
    go_enter Try.func71, Try.ntmps71
    go_wp2_with fail
    refine (take1_new w mb O L s H.out _ r HS.out _).mono ?_
    rintro e w' ⟨rfl, ht, hb1⟩; obtain ⟨L', hM⟩ := ht.ma; have HM := Lib.hid hM; have HT := Lib.hid ht; have hlt := ht.lt; have b1 := hb1.cell 0; have b1l := hb1.lt; have b1f := hb1.frozen 0; simp only [List.getElem?_toArray, List.getElem?_cons_zero] at b1; clear ht hM hb1
    go_wp2_with fail
    refine (has_any w' mb O L' _ HM.out _).mono ?_
    rintro e w5 ⟨rfl, rfl⟩
    have hh : has { s with stack := r } x = false := HX'.out
    rw [hh]
    clear hh
    go_wp2_with fail
    refine (leave1_new w' mb O L' _ HM.out _ (by simp only; omega)).mono ?_
    intro e w9 hp; have HP := Lib.hid (hp.from_ HT.out.fr); obtain ⟨rfl, _⟩ := hp; go_wp2; go_end0
    rw [lookV_no HX.out]
    exact HP.out
end Go.Proofs.Ythdmdgmchkhngaa

/- Parts of the proof, joined: SrH SrI. -/
import Derived.Test.YtnhebmgibiomnaaGreatPc7
set_option linter.unusedVariables false
set_option linter.unusedSimpArgs false
namespace Go.Proofs.YtnhebmgibiomnaaGreat
open Go.RowKit Mc
def sMove (s : Sr.St) (p d : Int) : Sr.St := if has s.m p then { s with m := goes s.m p.toNat s.m.move (coord s.m.move (s.m.cur.getD p.toNat (0, 0)) + d) } else s
def sSet (s : Sr.St) (p v : Int) : Sr.St := if s.m.look = s.m.move ∧ has s.m p then { s with m := goes s.m p.toNat s.m.move v } else s
def sAlign (s : Sr.St) (p q : Int) : Sr.St := if s.m.look = s.m.move ∧ has s.m p ∧ has s.m q then { s with m := goes s.m q.toNat s.m.move (coord s.m.move (s.m.cur.getD p.toNat (0, 0))) } else s
set_option maxRecDepth 100000 in
set_option maxHeartbeats 1000000 in
theorem sshove_any (w : World) (sb : Nat) (L : SLay) (s : Sr.St) (h : SrL w sb L s) (x d : Int) (hd : K32 d) : Calls Tryz.prog 141 #[.pointer (some ⟨sb, 0, none⟩), .int .i64 x, .int .i64 d] w (SPost w sb L (sMove s x d)) := by
  have H := Lib.hid h
  have hs1 := h.blk.lt
  have hcl := h.ok.m.curl
  unfold K32 at hd
  clear h
  by_cases hh : has s.m x = true
  · have HH := Lib.hid hh
    obtain ⟨i, rfl, hil⟩ := has_nat hh
    clear hh
    have HQ := Lib.hid (show sMove s i d = { s with m := goes s.m i s.m.move (coord s.m.move (s.m.cur.getD i (0, 0)) + d) } by unfold sMove; rw [if_pos HH.out, Int.toNat_natCast])
    have HPUT := Lib.hid (fun (W : World) (hW : SrL W sb L s) (v : Int) => sput_any W sb L s hW i v hil)
    have hmv := H.out.ok.m.move
    obtain ⟨g, c, x, hv, hc1, hx, hg, hcell, _⟩ := H.out.pt (p := i) hil
    have hxk : K32 (coord s.m.move x) := by
      have := H.out.ok.m.cur x (List.mem_of_getElem? hx)
      unfold coord
      split
      · exact this.2
      · exact this.1
    have c65 := H.out.c65
    rw [hv] at c65
    have c73 := H.out.c73
    have cp := hcell s.m.move
    have HGX := Lib.hid (getD_of (d := (0, 0)) hx)
    unfold K32 at hxk
    clear hcell hv hx hc1
    generalize hm : s.m.move = mv at *
    have HM := Lib.hid hm
    clear hm
    generalize hd' : (if mv = 1 then 1 else 0 : Nat) = dd at *
    have HD := Lib.hid hd'
    clear hd'
    rw [HGX.out] at HQ
    go_enter Tryz.func141, Tryz.ntmps141
    go_wp2_with fail
    refine (shas_any _ _ _ _ H.out _).mono ?_
    rintro e w5 ⟨rfl, rfl⟩
    rw [HH.out]
    go_wp2_with fail
    have hS : w.drew.cell? ⟨sb, 65, none⟩ = some (.slice (some ⟨g, 0, none⟩) s.m.cur.length c) ∧ w.drew.cell? ⟨sb, 73, none⟩ = some (.int .i64 mv) ∧ w.drew.cell? ⟨g, i * 2 + dd, none⟩ = some (.int .i64 (coord mv x)) := ⟨c65, c73, cp⟩
    refine wp_region_seqT (fun i => !([13, 18] : List Nat).contains i) (fun i => ([6, 12, 15] : List Nat).contains i) (fun i => ([] : List Nat).contains i) [0, 1, 2, 3, 4, 5, 6, 7, 8, 9, 10, 11, 12, 16, 13, 14, 15, 17, 18] (fun wq : World => wq.cell? ⟨sb, 65, none⟩ = some (.slice (some ⟨g, 0, none⟩) s.m.cur.length c) ∧ wq.cell? ⟨sb, 73, none⟩ = some (.int .i64 mv) ∧ wq.cell? ⟨g, i * 2 + dd, none⟩ = some (.int .i64 (coord mv x))) (by kernel_rfl) (by kernel_rfl) (by kernel_rfl) (by kernel_rfl) ?_
    iterate 14 (first | refine wpSeq_pureA (v := _) rfl rfl rfl ?_ | refine wpSeq_loadA (v := _) rfl rfl hS rfl ?_)
    refine wpSeq_heavy rfl rfl (fun K hK => ?_); go_simp
    refine (scoord_any _ _ _ _ hmv.1 hmv.2).mono ?_
    rintro e w5 ⟨rfl, rfl⟩
    rw [HD.out]
    dsimp only
    refine hK _ _ (fun _ => hS) ?_; clear hK K
    iterate 3 (first | refine wpSeq_pureA (v := _) rfl rfl rfl ?_ | refine wpSeq_loadA (v := _) rfl rfl hS rfl ?_)
    refine wpSeq_heavy rfl rfl (fun K hK => ?_); go_simp
    refine (HPUT.out w.drew H.out.drew _).mono ?_
    intro e w9 hp
    have HP := Lib.hid (hp.from_ (Fr.refl _ w).drew)
    obtain ⟨rfl, _⟩ := hp
    dsimp only
    refine hK _ _ (fun h => by cases h) ?_; clear hK K
    refine wpSeq_end ?_
    go_wp2
    go_end0
    have hW := HP.out
    rw [IntWalk.i64_in _ (by omega)] at hW
    rw [HQ.out]
    exact HM.out ▸ hW
  · have hh' : has s.m x = false := by simpa using hh
    have HQ := Lib.hid (show sMove s x d = s by unfold sMove; rw [if_neg hh])
    have HH := Lib.hid hh'
    clear hh hh'
    rw [HQ.out]
    go_enter Tryz.func141, Tryz.ntmps141
    go_wp2_with fail
    refine (shas_any _ _ _ _ H.out _).mono ?_
    rintro e w5 ⟨rfl, rfl⟩
    rw [HH.out]
    go_wp2
    go_end0
    exact .here H.out (Fr.refl _ w)
set_option maxRecDepth 100000 in
set_option maxHeartbeats 1000000 in
theorem sset_any (w : World) (sb : Nat) (L : SLay) (s : Sr.St) (h : SrL w sb L s) (x v : Int) : Calls Tryz.prog 143 #[.pointer (some ⟨sb, 0, none⟩), .int .i64 x, .int .i64 v] w (SPost w sb L (sSet s x v)) := by
  have H := Lib.hid h
  have hs1 := h.blk.lt
  have hcl := h.ok.m.curl
  have c72 := h.c72
  have c73 := h.c73
  clear h
  by_cases hlm : s.m.look = s.m.move
  · rw [hlm] at c72
    by_cases hh : has s.m x = true
    · have HH := Lib.hid hh
      obtain ⟨i, rfl, hil⟩ := has_nat hh
      have HQ := Lib.hid (show sSet s i v = { s with m := goes s.m i s.m.move v } by unfold sSet; rw [if_pos ⟨hlm, hh⟩, Int.toNat_natCast])
      clear hh hlm
      go_enter Tryz.func143, Tryz.ntmps143
      go_wp2_with fail
      have hS : w.drew.cell? ⟨sb, 72, none⟩ = some (.int .i64 s.m.move) ∧ w.drew.cell? ⟨sb, 73, none⟩ = some (.int .i64 s.m.move) := ⟨c72, c73⟩
      refine wp_region_seqT (fun i => !([12] : List Nat).contains i) (fun i => ([3, 7] : List Nat).contains i) (fun i => ([] : List Nat).contains i) [0, 1, 2, 3, 4, 5, 6, 7, 8, 9, 10, 11, 12, 13] (fun wq : World => wq.cell? ⟨sb, 72, none⟩ = some (.int .i64 s.m.move) ∧ wq.cell? ⟨sb, 73, none⟩ = some (.int .i64 s.m.move)) (by kernel_rfl) (by kernel_rfl) (by kernel_rfl) (by kernel_rfl) ?_
      iterate 11 (first | refine wpSeq_pureA (v := _) rfl rfl rfl ?_ | refine wpSeq_loadA (v := _) rfl rfl hS rfl ?_)
      go_simp
      iterate 1 (first | refine wpSeq_pureA (v := _) rfl rfl rfl ?_ | refine wpSeq_loadA (v := _) rfl rfl hS rfl ?_)
      refine wpSeq_heavy rfl rfl (fun K hK => ?_); go_simp
      refine (shas_any _ _ _ _ H.out.drew _).mono ?_
      rintro e w5 ⟨rfl, rfl⟩
      rw [HH.out]
      dsimp only
      refine hK _ _ (fun h => by cases h) ?_; clear hK K
      iterate 1 (first | refine wpSeq_pureA (v := _) rfl rfl rfl ?_ | refine wpSeq_loadA (v := _) rfl rfl hS rfl ?_)
      refine wpSeq_end ?_
      go_wp2_with fail
      refine (sput_any _ _ _ _ H.out.drew i v hil).mono ?_
      intro e w9 hp
      have HP := Lib.hid (hp.from_ (Fr.refl _ w).drew)
      obtain ⟨rfl, _⟩ := hp
      go_wp2
      go_end0
      rw [HQ.out]
      exact HP.out
    · have hh' : has s.m x = false := by simpa using hh
      have HQ := Lib.hid (show sSet s x v = s by unfold sSet; rw [if_neg (fun e => hh e.2)])
      have HH := Lib.hid hh'
      clear hh hh' hlm
      go_enter Tryz.func143, Tryz.ntmps143
      go_wp2_with fail
      have hS : w.drew.cell? ⟨sb, 72, none⟩ = some (.int .i64 s.m.move) ∧ w.drew.cell? ⟨sb, 73, none⟩ = some (.int .i64 s.m.move) := ⟨c72, c73⟩
      refine wp_region_seqT (fun i => !([12] : List Nat).contains i) (fun i => ([3, 7] : List Nat).contains i) (fun i => ([] : List Nat).contains i) [0, 1, 2, 3, 4, 5, 6, 7, 8, 9, 10, 11, 12, 13] (fun wq : World => wq.cell? ⟨sb, 72, none⟩ = some (.int .i64 s.m.move) ∧ wq.cell? ⟨sb, 73, none⟩ = some (.int .i64 s.m.move)) (by kernel_rfl) (by kernel_rfl) (by kernel_rfl) (by kernel_rfl) ?_
      iterate 11 (first | refine wpSeq_pureA (v := _) rfl rfl rfl ?_ | refine wpSeq_loadA (v := _) rfl rfl hS rfl ?_)
      go_simp
      iterate 1 (first | refine wpSeq_pureA (v := _) rfl rfl rfl ?_ | refine wpSeq_loadA (v := _) rfl rfl hS rfl ?_)
      refine wpSeq_heavy rfl rfl (fun K hK => ?_); go_simp
      refine (shas_any _ _ _ _ H.out.drew _).mono ?_
      rintro e w5 ⟨rfl, rfl⟩
      rw [HH.out]
      dsimp only
      refine hK _ _ (fun h => by cases h) ?_; clear hK K
      iterate 1 (first | refine wpSeq_pureA (v := _) rfl rfl rfl ?_ | refine wpSeq_loadA (v := _) rfl rfl hS rfl ?_)
      refine wpSeq_end ?_
      go_wp2
      go_end0
      rw [HQ.out]
      exact .here H.out.drew (Fr.refl _ w).drew
  · have hb : (s.m.look == s.m.move) = false := by simpa using hlm
    have HQ := Lib.hid (show sSet s x v = s by unfold sSet; rw [if_neg (fun e => hlm e.1)])
    clear hlm
    go_enter Tryz.func143, Tryz.ntmps143
    go_wp2_with fail
    have hS : w.drew.cell? ⟨sb, 72, none⟩ = some (.int .i64 s.m.look) ∧ w.drew.cell? ⟨sb, 73, none⟩ = some (.int .i64 s.m.move) := ⟨c72, c73⟩
    refine wp_region_seqT (fun i => !([] : List Nat).contains i) (fun i => ([3, 7] : List Nat).contains i) (fun i => ([] : List Nat).contains i) [0, 1, 2, 3, 4, 5, 6, 7, 8, 9, 10, 11, 12, 13] (fun wq : World => wq.cell? ⟨sb, 72, none⟩ = some (.int .i64 s.m.look) ∧ wq.cell? ⟨sb, 73, none⟩ = some (.int .i64 s.m.move)) (by kernel_rfl) (by kernel_rfl) (by kernel_rfl) (by kernel_rfl) ?_
    iterate 10 (first | refine wpSeq_pureA (v := _) rfl rfl rfl ?_ | refine wpSeq_loadA (v := _) rfl rfl hS rfl ?_)
    go_simp
    refine wpSeq_skip rfl rfl rfl (by kernel_rfl) (fun _ _ _ h => h) ?_
    refine wpSeq_skip rfl rfl rfl (by kernel_rfl) (fun _ _ _ h => h) ?_
    refine wpSeq_skip rfl rfl rfl (by kernel_rfl) (fun _ _ _ h => h) ?_
    iterate 1 (first | refine wpSeq_pureA (v := _) rfl rfl rfl ?_ | refine wpSeq_loadA (v := _) rfl rfl hS rfl ?_)
    refine wpSeq_end ?_
    go_wp2
    go_end0
    rw [HQ.out]
    exact .here H.out.drew (Fr.refl _ w).drew
set_option maxRecDepth 100000 in
set_option maxHeartbeats 2000000 in
theorem salign_any (w : World) (sb : Nat) (L : SLay) (s : Sr.St) (h : SrL w sb L s) (x y : Int) : Calls Tryz.prog 145 #[.pointer (some ⟨sb, 0, none⟩), .int .i64 x, .int .i64 y] w (SPost w sb L (sAlign s x y)) := by
  have H := Lib.hid h
  have hs1 := h.blk.lt
  have hcl := h.ok.m.curl
  have c72 := h.c72
  have c73 := h.c73
  clear h
  by_cases hlm : s.m.look = s.m.move
  · rw [hlm] at c72
    by_cases hh : has s.m x = true
    · have HH := Lib.hid hh
      by_cases hy : has s.m y = true
      · have HY := Lib.hid hy
        obtain ⟨i, rfl, hil⟩ := has_nat hh
        obtain ⟨j, rfl, hjl⟩ := has_nat hy
        have HQ := Lib.hid (show sAlign s i j = { s with m := goes s.m j s.m.move (coord s.m.move (s.m.cur.getD i (0, 0))) } by unfold sAlign; rw [if_pos ⟨hlm, hh, hy⟩, Int.toNat_natCast, Int.toNat_natCast])
        have HPUT := Lib.hid (fun (W : World) (hW : SrL W sb L s) (v : Int) => sput_any W sb L s hW j v hjl)
        clear hh hlm hy
        go_enter Tryz.func145, Tryz.ntmps145
        go_wp2_with fail
        have hS : w.drew.cell? ⟨sb, 72, none⟩ = some (.int .i64 s.m.move) ∧ w.drew.cell? ⟨sb, 73, none⟩ = some (.int .i64 s.m.move) := ⟨c72, c73⟩
        refine wp_region_seqT (fun i => !([12, 17] : List Nat).contains i) (fun i => ([3, 7] : List Nat).contains i) (fun i => ([] : List Nat).contains i) [0, 1, 2, 3, 4, 5, 6, 7, 8, 9, 10, 11, 12, 13, 14, 15, 16, 17, 18] (fun wq : World => wq.cell? ⟨sb, 72, none⟩ = some (.int .i64 s.m.move) ∧ wq.cell? ⟨sb, 73, none⟩ = some (.int .i64 s.m.move)) (by kernel_rfl) (by kernel_rfl) (by kernel_rfl) (by kernel_rfl) ?_
        iterate 11 (first | refine wpSeq_pureA (v := _) rfl rfl rfl ?_ | refine wpSeq_loadA (v := _) rfl rfl hS rfl ?_)
        go_simp
        iterate 1 (first | refine wpSeq_pureA (v := _) rfl rfl rfl ?_ | refine wpSeq_loadA (v := _) rfl rfl hS rfl ?_)
        refine wpSeq_heavy rfl rfl (fun K hK => ?_); go_simp
        refine (shas_any _ _ _ _ H.out.drew _).mono ?_
        rintro e w5 ⟨rfl, rfl⟩
        rw [HH.out]
        dsimp only
        refine hK _ _ (fun _ => hS) ?_; clear hK K
        iterate 3 (first | refine wpSeq_pureA (v := _) rfl rfl rfl ?_ | refine wpSeq_loadA (v := _) rfl rfl hS rfl ?_)
        go_simp
        iterate 1 (first | refine wpSeq_pureA (v := _) rfl rfl rfl ?_ | refine wpSeq_loadA (v := _) rfl rfl hS rfl ?_)
        refine wpSeq_heavy rfl rfl (fun K hK => ?_); go_simp
        refine (shas_any _ _ _ _ H.out.drew _).mono ?_
        rintro e w5 ⟨rfl, rfl⟩
        rw [HY.out]
        dsimp only
        refine hK _ _ (fun h => by cases h) ?_; clear hK K
        iterate 1 (first | refine wpSeq_pureA (v := _) rfl rfl rfl ?_ | refine wpSeq_loadA (v := _) rfl rfl hS rfl ?_)
        refine wpSeq_end ?_
        clear hS c72 c73
        have H1 := Lib.hid H.out.drew
        have F1 := Lib.hid (Fr.refl (SrS L sb) w).drew
        have hz : sb < w.drew.heap.size := hs1
        go_wp2_with fail
        generalize w.drew = W at *
        have hmv := H.out.ok.m.move
        obtain ⟨g, c, x, hv, hc1, hx, hg, hcell, _⟩ := H1.out.pt (p := i) hil
        have hxk : K32 (coord s.m.move x) := by
          have := H.out.ok.m.cur x (List.mem_of_getElem? hx)
          unfold coord
          split
          · exact this.2
          · exact this.1
        have c65 := H1.out.c65
        rw [hv] at c65
        have c73 := H1.out.c73
        have cp := hcell s.m.move
        have HGX := Lib.hid (getD_of (d := (0, 0)) hx)
        unfold K32 at hxk
        clear hcell hv hx hc1
        generalize hm : s.m.move = mv at *
        have HM := Lib.hid hm
        clear hm
        generalize hd' : (if mv = 1 then 1 else 0 : Nat) = dd at *
        have HD := Lib.hid hd'
        clear hd'
        rw [HGX.out] at HQ
        have hS : W.drew.cell? ⟨sb, 65, none⟩ = some (.slice (some ⟨g, 0, none⟩) s.m.cur.length c) ∧ W.drew.cell? ⟨sb, 73, none⟩ = some (.int .i64 mv) ∧ W.drew.cell? ⟨g, i * 2 + dd, none⟩ = some (.int .i64 (coord mv x)) := ⟨c65, c73, cp⟩
        refine wp_region_seqT (fun i => !([13, 16] : List Nat).contains i) (fun i => ([6, 12, 15] : List Nat).contains i) (fun i => ([] : List Nat).contains i) [0, 1, 2, 3, 4, 5, 6, 7, 8, 9, 10, 11, 12, 13, 14, 15, 16] (fun wq : World => wq.cell? ⟨sb, 65, none⟩ = some (.slice (some ⟨g, 0, none⟩) s.m.cur.length c) ∧ wq.cell? ⟨sb, 73, none⟩ = some (.int .i64 mv) ∧ wq.cell? ⟨g, i * 2 + dd, none⟩ = some (.int .i64 (coord mv x))) (by kernel_rfl) (by kernel_rfl) (by kernel_rfl) (by kernel_rfl) ?_
        iterate 13 (first | refine wpSeq_pureA (v := _) rfl rfl rfl ?_ | refine wpSeq_loadA (v := _) rfl rfl hS rfl ?_)
        refine wpSeq_heavy rfl rfl (fun K hK => ?_); go_simp
        refine (scoord_any _ _ _ _ hmv.1 hmv.2).mono ?_
        rintro e w5 ⟨rfl, rfl⟩
        rw [HD.out]
        dsimp only
        refine hK _ _ (fun _ => hS) ?_; clear hK K
        iterate 2 (first | refine wpSeq_pureA (v := _) rfl rfl rfl ?_ | refine wpSeq_loadA (v := _) rfl rfl hS rfl ?_)
        refine wpSeq_heavy rfl rfl (fun K hK => ?_); go_simp
        refine (HPUT.out W.drew H1.out.drew _).mono ?_
        intro e w9 hp
        have HP := Lib.hid (hp.from_ F1.out.drew)
        obtain ⟨rfl, _⟩ := hp
        dsimp only
        refine hK _ _ (fun h => by cases h) ?_; clear hK K
        refine wpSeq_end ?_
        go_wp2
        go_end0
        rw [HQ.out]
        exact HM.out ▸ HP.out
      · have hy' : has s.m y = false := by simpa using hy
        have HQ := Lib.hid (show sAlign s x y = s by unfold sAlign; rw [if_neg (fun e => hy e.2.2)])
        have HY := Lib.hid hy'
        clear hh hlm hy hy'
        go_enter Tryz.func145, Tryz.ntmps145
        go_wp2_with fail
        have hS : w.drew.cell? ⟨sb, 72, none⟩ = some (.int .i64 s.m.move) ∧ w.drew.cell? ⟨sb, 73, none⟩ = some (.int .i64 s.m.move) := ⟨c72, c73⟩
        refine wp_region_seqT (fun i => !([12, 17] : List Nat).contains i) (fun i => ([3, 7] : List Nat).contains i) (fun i => ([] : List Nat).contains i) [0, 1, 2, 3, 4, 5, 6, 7, 8, 9, 10, 11, 12, 13, 14, 15, 16, 17, 18] (fun wq : World => wq.cell? ⟨sb, 72, none⟩ = some (.int .i64 s.m.move) ∧ wq.cell? ⟨sb, 73, none⟩ = some (.int .i64 s.m.move)) (by kernel_rfl) (by kernel_rfl) (by kernel_rfl) (by kernel_rfl) ?_
        iterate 11 (first | refine wpSeq_pureA (v := _) rfl rfl rfl ?_ | refine wpSeq_loadA (v := _) rfl rfl hS rfl ?_)
        go_simp
        iterate 1 (first | refine wpSeq_pureA (v := _) rfl rfl rfl ?_ | refine wpSeq_loadA (v := _) rfl rfl hS rfl ?_)
        refine wpSeq_heavy rfl rfl (fun K hK => ?_); go_simp
        refine (shas_any _ _ _ _ H.out.drew _).mono ?_
        rintro e w5 ⟨rfl, rfl⟩
        rw [HH.out]
        dsimp only
        refine hK _ _ (fun _ => hS) ?_; clear hK K
        iterate 3 (first | refine wpSeq_pureA (v := _) rfl rfl rfl ?_ | refine wpSeq_loadA (v := _) rfl rfl hS rfl ?_)
        go_simp
        iterate 1 (first | refine wpSeq_pureA (v := _) rfl rfl rfl ?_ | refine wpSeq_loadA (v := _) rfl rfl hS rfl ?_)
        refine wpSeq_heavy rfl rfl (fun K hK => ?_); go_simp
        refine (shas_any _ _ _ _ H.out.drew _).mono ?_
        rintro e w5 ⟨rfl, rfl⟩
        rw [HY.out]
        dsimp only
        refine hK _ _ (fun h => by cases h) ?_; clear hK K
        iterate 1 (first | refine wpSeq_pureA (v := _) rfl rfl rfl ?_ | refine wpSeq_loadA (v := _) rfl rfl hS rfl ?_)
        refine wpSeq_end ?_
        go_wp2
        go_end0
        rw [HQ.out]
        exact .here H.out.drew (Fr.refl _ w).drew
    · have hh' : has s.m x = false := by simpa using hh
      have HQ := Lib.hid (show sAlign s x y = s by unfold sAlign; rw [if_neg (fun e => hh e.2.1)])
      have HH := Lib.hid hh'
      clear hh hh' hlm
      go_enter Tryz.func145, Tryz.ntmps145
      go_wp2_with fail
      have hS : w.drew.cell? ⟨sb, 72, none⟩ = some (.int .i64 s.m.move) ∧ w.drew.cell? ⟨sb, 73, none⟩ = some (.int .i64 s.m.move) := ⟨c72, c73⟩
      refine wp_region_seqT (fun i => !([12] : List Nat).contains i) (fun i => ([3, 7] : List Nat).contains i) (fun i => ([] : List Nat).contains i) [0, 1, 2, 3, 4, 5, 6, 7, 8, 9, 10, 11, 12, 13, 14, 15, 16, 17, 18] (fun wq : World => wq.cell? ⟨sb, 72, none⟩ = some (.int .i64 s.m.move) ∧ wq.cell? ⟨sb, 73, none⟩ = some (.int .i64 s.m.move)) (by kernel_rfl) (by kernel_rfl) (by kernel_rfl) (by kernel_rfl) ?_
      iterate 11 (first | refine wpSeq_pureA (v := _) rfl rfl rfl ?_ | refine wpSeq_loadA (v := _) rfl rfl hS rfl ?_)
      go_simp
      iterate 1 (first | refine wpSeq_pureA (v := _) rfl rfl rfl ?_ | refine wpSeq_loadA (v := _) rfl rfl hS rfl ?_)
      refine wpSeq_heavy rfl rfl (fun K hK => ?_); go_simp
      refine (shas_any _ _ _ _ H.out.drew _).mono ?_
      rintro e w5 ⟨rfl, rfl⟩
      rw [HH.out]
      dsimp only
      refine hK _ _ (fun h => by cases h) ?_; clear hK K
      iterate 2 (first | refine wpSeq_pureA (v := _) rfl rfl rfl ?_ | refine wpSeq_loadA (v := _) rfl rfl hS rfl ?_)
      go_simp
      refine wpSeq_skip rfl rfl rfl (by kernel_rfl) (fun _ _ _ h => h) ?_
      refine wpSeq_skip rfl rfl rfl (by kernel_rfl) (fun _ _ _ h => h) ?_
      refine wpSeq_skip rfl rfl rfl (by kernel_rfl) (fun _ _ _ h => h) ?_
      iterate 1 (first | refine wpSeq_pureA (v := _) rfl rfl rfl ?_ | refine wpSeq_loadA (v := _) rfl rfl hS rfl ?_)
      refine wpSeq_end ?_
      go_wp2
      go_end0
      rw [HQ.out]
      exact .here H.out.drew (Fr.refl _ w).drew
  · have hb : (s.m.look == s.m.move) = false := by simpa using hlm
    have HQ := Lib.hid (show sAlign s x y = s by unfold sAlign; rw [if_neg (fun e => hlm e.1)])
    clear hlm
    go_enter Tryz.func145, Tryz.ntmps145
    go_wp2_with fail
    have hS : w.drew.cell? ⟨sb, 72, none⟩ = some (.int .i64 s.m.look) ∧ w.drew.cell? ⟨sb, 73, none⟩ = some (.int .i64 s.m.move) := ⟨c72, c73⟩
    refine wp_region_seqT (fun i => !([] : List Nat).contains i) (fun i => ([3, 7] : List Nat).contains i) (fun i => ([] : List Nat).contains i) [0, 1, 2, 3, 4, 5, 6, 7, 8, 9, 10, 11, 12, 13, 14, 15, 16, 17, 18] (fun wq : World => wq.cell? ⟨sb, 72, none⟩ = some (.int .i64 s.m.look) ∧ wq.cell? ⟨sb, 73, none⟩ = some (.int .i64 s.m.move)) (by kernel_rfl) (by kernel_rfl) (by kernel_rfl) (by kernel_rfl) ?_
    iterate 10 (first | refine wpSeq_pureA (v := _) rfl rfl rfl ?_ | refine wpSeq_loadA (v := _) rfl rfl hS rfl ?_)
    go_simp
    refine wpSeq_skip rfl rfl rfl (by kernel_rfl) (fun _ _ _ h => h) ?_
    refine wpSeq_skip rfl rfl rfl (by kernel_rfl) (fun _ _ _ h => h) ?_
    refine wpSeq_skip rfl rfl rfl (by kernel_rfl) (fun _ _ _ h => h) ?_
    iterate 2 (first | refine wpSeq_pureA (v := _) rfl rfl rfl ?_ | refine wpSeq_loadA (v := _) rfl rfl hS rfl ?_)
    go_simp
    refine wpSeq_skip rfl rfl rfl (by kernel_rfl) (fun _ _ _ h => h) ?_
    refine wpSeq_skip rfl rfl rfl (by kernel_rfl) (fun _ _ _ h => h) ?_
    refine wpSeq_skip rfl rfl rfl (by kernel_rfl) (fun _ _ _ h => h) ?_
    iterate 1 (first | refine wpSeq_pureA (v := _) rfl rfl rfl ?_ | refine wpSeq_loadA (v := _) rfl rfl hS rfl ?_)
    refine wpSeq_end ?_
    go_wp2
    go_end0
    rw [HQ.out]
    exact .here H.out.drew (Fr.refl _ w).drew
end Go.Proofs.YtnhebmgibiomnaaGreat
namespace Go.Proofs.YtnhebmgibiomnaaGreat
open Go.RowKit Mc
theorem s40 (x : Int) (w : World) : Calls Tryz.prog 105 #[.int .i64 x] w fun e w' => e = .returned (.int .i64 x) ∧ w = w' := by
  go_enter Tryz.func105, Tryz.ntmps105
  go_wp2
  go_ret
  exact ⟨rfl, rfl⟩
theorem s5 (x y : Int) (w : World) (hx : K32 x) (hy : K32 y) : Calls Tryz.prog 107 #[.int .i64 x, .int .i64 y] w fun e w' => e = .returned (.int .i64 (x + y)) ∧ w = w' := by
  unfold K32 at hx hy
  go_enter Tryz.func107, Tryz.ntmps107
  go_wp2
  go_ret
  exact ⟨rfl, rfl⟩
theorem s6 (x y : Int) (w : World) (hx : K32 x) (hy : K32 y) : Calls Tryz.prog 108 #[.int .i64 x, .int .i64 y] w fun e w' => e = .returned (.int .i64 (x - y)) ∧ w = w' := by
  unfold K32 at hx hy
  go_enter Tryz.func108, Tryz.ntmps108
  go_wp2
  go_ret
  exact ⟨rfl, rfl⟩
theorem s7 (x y : Int) (w : World) (hx : K32 x) (hy : K32 y) : Calls Tryz.prog 109 #[.int .i64 x, .int .i64 y] w fun e w' => e = .returned (.int .i64 (k32 (x * y / 64))) ∧ w = w' := by
  unfold K32 at hx hy
  have HM := Lib.hid (mul_in hx hy)
  go_enter Tryz.func109, Tryz.ntmps109
  go_wp2_with fail
  refine (skept_any _ _).mono ?_
  rintro e w1 ⟨rfl, rfl⟩
  go_wp2
  go_ret
  exact ⟨ret_i64 (by rw [HM.out]), rfl⟩
theorem s8 (x y : Int) (w : World) (hx : K32 x) (_hy : K32 y) : Calls Tryz.prog 110 #[.int .i64 x, .int .i64 y] w fun e w' => e = .returned (.int .i64 (k32 (divd (64 * x) y))) ∧ w = w' := by
  unfold K32 at hx _hy
  go_enter Tryz.func110, Tryz.ntmps110
  go_wp2_with fail
  refine (sdivided_any _ _ _).mono ?_
  rintro e w1 ⟨rfl, rfl⟩
  go_wp2_with fail
  refine (skept_any _ _).mono ?_
  rintro e w1 ⟨rfl, rfl⟩
  go_wp2
  go_ret
  have hd := divd_in (a := 64 * x) (b := y) (by omega) (by omega)
  exact ⟨ret_i64 (by rw [w64_in (by omega) (by omega)]), rfl⟩
theorem s9 (x : Int) (w : World) (hx : K32 x) : Calls Tryz.prog 112 #[.int .i64 x] w fun e w' => e = .returned (.int .i64 (-x)) ∧ w = w' := by
  unfold K32 at hx
  go_enter Tryz.func112, Tryz.ntmps112
  go_wp2
  go_ret
  exact ⟨rfl, rfl⟩
theorem s10 (x : Int) (w : World) (hx : K32 x) : Calls Tryz.prog 113 #[.int .i64 x] w fun e w' => e = .returned (.int .i64 (max x (-x))) ∧ w = w' := by
  unfold K32 at hx
  go_enter Tryz.func113, Tryz.ntmps113
  go_wp2
  all_goals
    go_ret
    exact ⟨ret_i64 (by omega), rfl⟩
theorem s11 (x y : Int) (w : World) (_hx : K32 x) (_hy : K32 y) : Calls Tryz.prog 114 #[.int .i64 x, .int .i64 y] w fun e w' => e = .returned (.int .i64 (min x y)) ∧ w = w' := by
  unfold K32 at _hx _hy
  go_enter Tryz.func114, Tryz.ntmps114
  go_wp2
  all_goals
    go_ret
    exact ⟨ret_i64 (by omega), rfl⟩
theorem s12 (x y : Int) (w : World) (_hx : K32 x) (_hy : K32 y) : Calls Tryz.prog 115 #[.int .i64 x, .int .i64 y] w fun e w' => e = .returned (.int .i64 (max x y)) ∧ w = w' := by
  unfold K32 at _hx _hy
  go_enter Tryz.func115, Tryz.ntmps115
  go_wp2
  all_goals
    go_ret
    exact ⟨ret_i64 (by omega), rfl⟩
theorem s13 (x : Int) (w : World) (_hx : K32 x) : Calls Tryz.prog 116 #[.int .i64 x] w fun e w' => e = .returned (.int .i64 (rounded 4 x)) ∧ w = w' := by
  unfold K32 at _hx
  go_enter Tryz.func116, Tryz.ntmps116
  go_wp2_with fail
  refine (rounded_any _ _ _).mono ?_
  rintro e w1 ⟨rfl, rfl⟩
  go_wp2
  go_ret
  exact ⟨rfl, rfl⟩
theorem s14 (x : Int) (w : World) (_hx : K32 x) : Calls Tryz.prog 118 #[.int .i64 x] w fun e w' => e = .returned (.int .i64 (rounded 5 x)) ∧ w = w' := by
  unfold K32 at _hx
  go_enter Tryz.func118, Tryz.ntmps118
  go_wp2_with fail
  refine (rounded_any _ _ _).mono ?_
  rintro e w1 ⟨rfl, rfl⟩
  go_wp2
  go_ret
  exact ⟨rfl, rfl⟩
theorem s16 (x y : Int) (w : World) (_hx : K32 x) (_hy : K32 y) : Calls Tryz.prog 120 #[.int .i64 x, .int .i64 y] w fun e w' => e = .returned (.int .i64 (truth (decide (x < y)))) ∧ w = w' := by
  unfold K32 at _hx _hy
  go_enter Tryz.func120, Tryz.ntmps120
  go_wp2_with fail
  refine (struth_any _ _).mono ?_
  rintro e w1 ⟨rfl, rfl⟩
  go_wp2
  go_ret
  exact ⟨ret_i64 (by first | rfl | (congr 1; simp)), rfl⟩
theorem s17 (x y : Int) (w : World) (_hx : K32 x) (_hy : K32 y) : Calls Tryz.prog 122 #[.int .i64 x, .int .i64 y] w fun e w' => e = .returned (.int .i64 (truth (decide (x ≤ y)))) ∧ w = w' := by
  unfold K32 at _hx _hy
  go_enter Tryz.func122, Tryz.ntmps122
  go_wp2_with fail
  refine (struth_any _ _).mono ?_
  rintro e w1 ⟨rfl, rfl⟩
  go_wp2
  go_ret
  exact ⟨ret_i64 (by first | rfl | (congr 1; simp)), rfl⟩
theorem s18 (x y : Int) (w : World) (_hx : K32 x) (_hy : K32 y) : Calls Tryz.prog 123 #[.int .i64 x, .int .i64 y] w fun e w' => e = .returned (.int .i64 (truth (decide (x = y)))) ∧ w = w' := by
  unfold K32 at _hx _hy
  go_enter Tryz.func123, Tryz.ntmps123
  go_wp2_with fail
  refine (struth_any _ _).mono ?_
  rintro e w1 ⟨rfl, rfl⟩
  go_wp2
  go_ret
  exact ⟨ret_i64 (by first | rfl | (congr 1; simp)), rfl⟩
theorem s19 (x : Int) (w : World) (_hx : K32 x) : Calls Tryz.prog 124 #[.int .i64 x] w fun e w' => e = .returned (.int .i64 (truth (decide (x = 0)))) ∧ w = w' := by
  unfold K32 at _hx
  go_enter Tryz.func124, Tryz.ntmps124
  go_wp2_with fail
  refine (struth_any _ _).mono ?_
  rintro e w1 ⟨rfl, rfl⟩
  go_wp2
  go_ret
  exact ⟨ret_i64 (by first | rfl | (congr 1; simp)), rfl⟩
theorem s20 (x y : Int) (w : World) (hx : K32 x) (hy : K32 y) : Calls Tryz.prog 125 #[.int .i64 x, .int .i64 y] w fun e w' => e = .returned (.int .i64 (truth (decide (x ≠ 0 ∧ y ≠ 0)))) ∧ w = w' := by
  unfold K32 at hx hy
  rcases Decidable.em (x = 0) with h | h <;> rcases Decidable.em (y = 0) with h' | h'
  all_goals
    have HV := Lib.hid (show truth (decide (x ≠ 0 ∧ y ≠ 0)) = truth (decide (x ≠ 0) && decide (y ≠ 0)) by simp)
    first | subst h | have b1 : (x != 0) = true := by simp [h]
    first | subst h' | have b2 : (y != 0) = true := by simp [h']
    go_enter Tryz.func125, Tryz.ntmps125
    go_wp2_with fail
    refine (struth_any _ _).mono ?_
    rintro e w1 ⟨rfl, rfl⟩
    go_wp2
    go_ret
    rw [HV.out]
    refine ⟨ret_i64 ?_, rfl⟩
    simp_all
theorem s21 (x y : Int) (w : World) (hx : K32 x) (hy : K32 y) : Calls Tryz.prog 126 #[.int .i64 x, .int .i64 y] w fun e w' => e = .returned (.int .i64 (truth (decide (x ≠ 0 ∨ y ≠ 0)))) ∧ w = w' := by
  unfold K32 at hx hy
  rcases Decidable.em (x = 0) with h | h <;> rcases Decidable.em (y = 0) with h' | h'
  all_goals
    have HV := Lib.hid (show truth (decide (x ≠ 0 ∨ y ≠ 0)) = truth (decide (x ≠ 0) || decide (y ≠ 0)) by simp)
    first | subst h | have b1 : (x != 0) = true := by simp [h]
    first | subst h' | have b2 : (y != 0) = true := by simp [h']
    go_enter Tryz.func126, Tryz.ntmps126
    go_wp2_with fail
    refine (struth_any _ _).mono ?_
    rintro e w1 ⟨rfl, rfl⟩
    go_wp2
    go_ret
    rw [HV.out]
    refine ⟨ret_i64 ?_, rfl⟩
    simp_all
end Go.Proofs.YtnhebmgibiomnaaGreat

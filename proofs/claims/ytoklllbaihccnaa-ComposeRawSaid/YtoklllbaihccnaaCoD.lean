/- container/heap over compose's least, the rest: Pop and Push of least, up, Init, Pop, Push. Expanded from XCoD.src by expand.py. -/
import Derived.Test.YtoklllbaihccnaaCoC
set_option linter.unusedVariables false
set_option linter.unusedSimpArgs false
namespace Go.Proofs.Ytoklllbaihccnaa
open Go.RowKit
/-- the heap, empty too -/
structure HpV (w : World) (base rb : Nat) (v : Value) (l : List Int) : Prop where
  box : Blk w rb 95 #[v]
  row : w.ownsRow base 3 1 v l.length (ints l)
theorem HpV.pos {w : World} {base rb : Nat} {v : Value} {l : List Int} (h : HpV w base rb v l) (hl : 0 < l.length) : ∃ g c, v = .slice (some ⟨g, 0, none⟩) l.length c ∧ HpR w base rb g c l := by
  obtain ⟨g, c, hv, _, _, _, _⟩ := owns_at h.row hl
  subst hv
  exact ⟨g, c, rfl, h.box, h.row⟩
theorem HpR.v {w : World} {base rb g c : Nat} {l : List Int} (h : HpR w base rb g c l) : HpV w base rb (.slice (some ⟨g, 0, none⟩) l.length c) l := ⟨h.box, h.row⟩
theorem HpR.take {w : World} {base rb g c : Nat} {l : List Int} (h : HpR w base rb g c l) (m : Nat) (hm : m ≤ l.length) : HpR (w.setCell ⟨rb, 0, none⟩ (.slice (some ⟨g, 0, none⟩) m c)) base rb g c (l.take m) := by
  have hl : (l.take m).length = m := by rw [List.length_take]; omega
  have hb := h.box.set_ 0 (.slice (some ⟨g, 0, none⟩) m c)
  refine ⟨by rw [hl]; simpa using hb, ?_⟩
  rw [hl]
  have h2 := owns_set h.row h.box (by decide) 0 (.slice (some ⟨g, 0, none⟩) m c)
  refine ⟨by rw [ints_len, hl, Nat.mul_one], ?_⟩
  rcases h2.2 with ⟨h1, _⟩ | ⟨g', cap, cur, hv, hg, hh, k1, k2, k3, k4⟩
  · cases h1
  · cases hv
    refine .inr ⟨g, c, cur, rfl, hg, hh, by omega, k2, k3, ?_⟩
    have e : ints (l.take m) = (ints l).take (m * 1) := by simp [ints, List.map_take]
    rw [e, ← k4, List.take_take]
    congr 1
    omega

set_option maxRecDepth 100000 in
set_option maxHeartbeats 1000000 in
theorem lpop_any (base rb g c : Nat) (l : List Int) (w : World) (h : HpR w base rb g c l) (h0 : 0 < l.length) (hl : l.length ≤ 100000000) :
    Calls Try.prog 98 #[.pointer (some ⟨rb, 0, none⟩)] w fun e w' => e = .returned (.iface 3 (.int .i64 (Hp.at_ l (l.length - 1)))) ∧ HpR w' base rb g c (l.take (l.length - 1)) ∧ Fr (· = rb) w w' := by
  obtain ⟨m, hm⟩ : ∃ m, l.length = m + 1 := ⟨l.length - 1, by omega⟩
  have c0 := h.box.cell 0
  simp only [List.getElem?_toArray, List.getElem?_cons_zero] at c0
  have cf := h.box.frozen 0
  have a0 := (h.at_ (i := m) (by omega)).1
  have HT := Lib.hid (h.take m (by omega))
  rw [hm] at c0
  have e1 : l.length - 1 = m := by omega
  rw [e1]
  have HM := Lib.hid hm
  obtain ⟨r, hcap⟩ := owns_form h.row
  obtain ⟨cc, hcv, hcc, hcm⟩ := hcap
  cases hcv
  rw [hm] at hcc
  unfold maxLen at hcm
  obtain ⟨z, hz⟩ : ∃ z, z = Hp.at_ l m := ⟨_, rfl⟩
  rw [← hz] at a0 ⊢
  clear h hm e1 hz
  go_enter Try.func98, Try.ntmps98
  go_wp2_with fail
  go_ret
  exact ⟨rfl, HT.out, (Fr.refl (· = rb) w).setCell (p := ⟨rb, 0, none⟩) (.inl rfl) _⟩
/-- behind an append onto the heap's row -/
theorem HpV.pushed {w w1 : World} {base rb : Nat} {v v' : Value} {l : List Int} {x : Int} (h : HpV w base rb v l) (ho : w1.ownsRow base 3 1 v' (l.length + 1) (ints l ++ [.int .i64 x])) (hg : w.grownBy w1 v.ownBlock) (hn : v'.ownBlock = v.ownBlock ∨ v'.ownBlock = some w.heap.size) :
    Blk w1 rb 95 #[v] ∧ HpV (w1.setCell ⟨rb, 0, none⟩ v') base rb v' (l ++ [x]) ∧ Fr (fun k => k = rb ∨ v.ownBlock = some k) w (w1.setCell ⟨rb, 0, none⟩ v') := by
  have hb : Blk w1 rb 95 #[v] := (hg.block rb h.box.lt (fun e => by
    obtain ⟨_, _, cs, hb'⟩ := owns_block h.row e.symm
    exact h.box.ne_ hb' (by decide) rfl)).trans h.box
  have e : ints (l ++ [x]) = ints l ++ [.int .i64 x] := by simp [ints]
  refine ⟨hb, ⟨by simpa using hb.set_ 0 v', ?_⟩, ?_⟩
  · rw [e, List.length_append, List.length_singleton]
    exact owns_set ho hb (by decide) 0 v'
  · have h1 : Fr (fun k => k = rb ∨ v.ownBlock = some k) w w1 := ⟨hg.os, hg.tape, hg.output, hg.size, fun k hk hs => hg.block k hk (fun e => hs (.inr e.symm))⟩
    exact h1.setCell (p := ⟨rb, 0, none⟩) (.inl (.inl rfl)) v'
theorem HpV.drew {w : World} {base rb : Nat} {v : Value} {l : List Int} (h : HpV w base rb v l) : HpV w.drew base rb v l := ⟨h.box, owns_keep h.row fun _ _ => rfl⟩
theorem HpV.alloc {w : World} {base rb : Nat} {v : Value} {l : List Int} (h : HpV w base rb v l) (o : Obj) : HpV (w.alloc o) base rb v l := ⟨h.box.alloc o, owns_grow h.row ((Fr.refl _ _).alloc o)⟩
theorem Fr.then_ {S T : Nat → Prop} {w w1 w2 : World} (h : Fr S w w1) (k : Fr T w1 w2) (hT : ∀ i, i < w.heap.size → T i → S i) : Fr S w w2 :=
  ⟨k.os.trans h.os, k.tape.trans h.tape, k.output.trans h.output, Nat.le_trans h.size k.size, fun i hi hs => (k.block i (by have := h.size; omega) (fun e => hs (hT i hi e))).trans (h.block i hi hs)⟩
/-- a heap's row that has changed: its own, or new -/
def HpPost (w : World) (base rb : Nat) (v : Value) (l : List Int) (w' : World) : Prop := ∃ v', HpV w' base rb v' l ∧ Fr (fun k => k = rb ∨ v.ownBlock = some k) w w' ∧ ∀ k, v'.ownBlock = some k → v.ownBlock = some k ∨ w.heap.size ≤ k

set_option maxRecDepth 100000 in
set_option maxHeartbeats 1000000 in
theorem lpush_any (base rb : Nat) (v : Value) (l : List Int) (x : Int) (w : World) (h : HpV w base rb v l) (hbase : base ≤ w.heap.size) (hl : l.length ≤ 100000000) :
    Calls Try.prog 99 #[.pointer (some ⟨rb, 0, none⟩), .iface 3 (.int .i64 x)] w fun e w' => e = .returned (.tuple #[]) ∧ HpPost w base rb v (l ++ [x]) w' := by
  have c0 := h.box.cell 0
  simp only [List.getElem?_toArray, List.getElem?_cons_zero] at c0
  have cf := h.box.frozen 0
  have cl := h.box.lt
  obtain ⟨Ac, cc, hcv, hcc, hcm⟩ := owns_form h.row
  subst hcv
  have HD := Lib.hid (h.drew.alloc (.cells #[.int .i64 x] 3))
  obtain ⟨i0, hi0, hi1, hi2, hi3⟩ := info_m info_int
  clear h
  go_enter Try.func99, Try.ntmps99
  have hS : w.drew.cell? ⟨rb, 0, none⟩ = some (.slice Ac l.length cc) := c0
  have hS2 : (w.drew.alloc (.cells #[.int .i64 x] 3)).cell? ⟨rb, 0, none⟩ = some (.slice Ac l.length cc) := (World.cell?_alloc_lt _ _ _ cl).trans c0
  refine wp_region_seqT (fun i => !([6, 7, 9] : List Nat).contains i) (fun i => ([3] : List Nat).contains i) (fun i => ([6] : List Nat).contains i) [0, 1, 2, 3, 4, 5, 6, 7, 8, 9] (fun wq : World => wq.cell? ⟨rb, 0, none⟩ = some (.slice Ac l.length cc)) (by kernel_rfl) (by kernel_rfl) (by kernel_rfl) (by kernel_rfl) ?_
  iterate 6 (first | refine wpSeq_pureA (v := _) rfl rfl rfl ?_ | refine wpSeq_loadA (v := _) rfl rfl hS rfl ?_)
  refine wpSeq_heavy rfl rfl (fun K hK => ?_); go_simp
  refine hK _ _ (fun _ => hS2) ?_; clear hK K
  refine wpSeq_heavy rfl rfl (fun K hK => ?_)
  refine step_own _ rfl (.tmp 7) (.tmp 10) _ rfl base 3 i0 _ 1 8 Try.underlying95 hi0 hi1 hi2 hi3 rfl (by decide) _ _ _ rfl HD.out.row _ _ 1 1 [.int .i64 x] rfl (Reads.blk (cs := [.int .i64 x]) (Blk.new _ _ _) 1 1 rfl) (by simp [Value.oneCell']) (by unfold maxLen; omega) (by omega) (by simp; omega) ?_
  intro v' w6 hrow hg hnew
  obtain ⟨hb6, hB6, hF6⟩ := HD.out.pushed hrow hg hnew
  have HP : Hid (HpPost w base rb (.slice Ac l.length cc) (l ++ [x]) (w6.setCell ⟨rb, 0, none⟩ v')) := Lib.hid ⟨v', hB6, (((Fr.refl _ w).drew.alloc _).trans (hF6.mono fun _ _ h => h)), fun k hk => by rcases hnew with e | e; exact .inl (e ▸ hk); rw [e] at hk; injection hk with hk; right; rw [← hk]; simp⟩
  obtain ⟨Av, cv', hve, _⟩ := owns_form hrow
  have b1 := hb6.cell 0
  have bf := hb6.frozen 0
  have bl := hb6.lt
  simp only [List.getElem?_toArray, List.getElem?_cons_zero, List.getElem?_cons_succ] at b1
  subst hve
  clear hb6 hB6 hF6 hrow hg hnew
  refine hK _ _ (fun h => by cases h) ?_; clear hK K
  iterate 1 (first | refine wpSeq_pureA (v := _) rfl rfl rfl ?_ | refine wpSeq_loadA (v := _) rfl rfl hS rfl ?_)
  refine wpSeq_heavy rfl rfl (fun K hK => ?_); go_simp
  refine hK _ _ (fun h => by cases h) ?_; clear hK K
  refine wpSeq_end ?_
  go_wp2
  go_end0
  exact ⟨rfl, HP.out⟩

theorem step_up {wr w W : World} {base rb g c k i f m : Nat} {l' R : List Int} {vi vk : Int} (h : HpR wr base rb g c l') (hl : l'.length = m) (hF : Fr (· = g) w wr) (ei : vi = Hp.at_ l' i) (ek : vk = Hp.at_ l' k) (hin : i < m) (hk : k < m)
    (hd : (if Hp.at_ l' k < Hp.at_ l' i then Hp.up f (Hp.swap l' i k) i else l') = R) (hlt : vk < vi) (kk : Nat) (kk' : Nat) (hW : W = wr.drewN kk) :
    Hp.up f (Hp.swap l' i k) i = R ∧ (Hp.swap l' i k).length = m ∧ HpR (((W.setCell ⟨g, i, none⟩ (.int .i64 vk)).setCell ⟨g, k, none⟩ (.int .i64 vi)).drewN kk') base rb g c (Hp.swap l' i k) ∧ Fr (· = g) w (((W.setCell ⟨g, i, none⟩ (.int .i64 vk)).setCell ⟨g, k, none⟩ (.int .i64 vi)).drewN kk') := by
  subst ei; subst ek; subst hW
  rw [if_pos hlt] at hd
  exact ⟨hd, (Hp.swap_len _ _ _).trans hl, (h.drewN kk).swap (by omega) (by omega) kk', (hF.drewN kk).trans (fr_swap kk')⟩
set_option maxRecDepth 100000 in
set_option maxHeartbeats 2000000 in
theorem hup_any (base rb g c : Nat) (l : List Int) (j0 F : Nat) (w : World) (h : HpR w base rb g c l) (hj : j0 < l.length) (hF0 : j0 < F) (hl : l.length ≤ 100000000) :
    Calls Try.prog 57 #[rdy rb, .int .i64 j0] w fun e w' => e = .returned (.tuple #[]) ∧ HpR w' base rb g c (Hp.up F l j0) ∧ Fr (· = g) w w' := by
  have H := Lib.hid h
  obtain ⟨R, hR⟩ : ∃ R, Hp.up F l j0 = R := ⟨_, rfl⟩
  rw [hR]
  have HR := Lib.hid hR
  obtain ⟨m, hm⟩ : ∃ m, m = l.length := ⟨_, rfl⟩
  rw [← hm] at hj hl
  have HM := Lib.hid hm
  clear h hR hm
  go_enter Try.func57, Try.ntmps57
  go_wp2_with fail
  go_loopw [1] (fun i wr => ∃ (k f : Nat) (l' : List Int), i = .int .i64 k ∧ k < m ∧ k < f ∧ Hp.up f l' k = R ∧ l'.length = m ∧ HpR wr base rb g c l' ∧ Fr (· = g) w wr) (fun i _ => (intOf i).toNat)
  case atStart => exact ⟨j0, F, l, rfl, hj, hF0, HR.out, HM.out.symm, H.out, Fr.refl _ _⟩
  case round =>
    obtain ⟨k, f, l', rfl, hk, hf, hd, hl', hH, hF⟩ := hrel
    obtain ⟨f, rfl⟩ : ∃ f', f = f' + 1 := ⟨f - 1, by omega⟩
    have c0 := hH.box.cell 0
    simp only [List.getElem?_toArray, List.getElem?_cons_zero] at c0
    rw [hl'] at c0
    have HH := Lib.hid hH
    have HF := Lib.hid hF
    have HL := Lib.hid hl'
    have rbl := hH.box.lt
    unfold Hp.up at hd
    by_cases h0 : k = 0
    · subst h0
      rw [if_pos rfl] at hd
      subst hd
      clear hl' hH hF H HR
      go_wp2_with fail
      go_end0
      exact ⟨rfl, HH.out, HF.out⟩
    · rw [if_neg h0] at hd
      have HD := Lib.hid hd
      have a0 := HH.out.at_ (i := k) (by have := HL.out; omega)
      have a1 := HH.out.at_ (i := (k - 1) / 2) (by have := HL.out; omega)
      obtain ⟨vk, ek⟩ : ∃ v, v = Hp.at_ l' k := ⟨_, rfl⟩
      obtain ⟨vi, ei⟩ : ∃ v, v = Hp.at_ l' ((k - 1) / 2) := ⟨_, rfl⟩
      rw [← ek] at a0
      rw [← ei] at a1
      obtain ⟨a0, a0f⟩ := a0
      obtain ⟨a1, a1f⟩ := a1
      have EK := Lib.hid ek
      have EI := Lib.hid ei
      have hm1 := @m_less rb
      have hm2 := @m_swap rb
      obtain ⟨i, hi⟩ : ∃ i, i = (k - 1) / 2 := ⟨_, rfl⟩
      have hik : i < k := by omega
      have hi2 : ((k : Int) - 1) / 2 = i := by omega
      have hne : (((k : Int) - 1) / 2 == (k : Int)) = false := by rw [hi2]; simp; omega
      have HI2 := Lib.hid hi2
      rw [← hi] at a1 a1f EI HD
      clear hd hl' hH hF H HR ek ei hi hi2
      go_wp2_with fail
      refine (less_int g m c k i _ _ vk vi _ rfl HI2.out (by omega) (by omega) (by omega) a0 a1).mono ?_
      rintro e w' ⟨rfl, kk2, rfl⟩
      by_cases h4 : vk < vi
      · have hd4 : decide (vk < vi) = true := by simpa using h4
        rw [hd4]
        go_wp2_with fail
        refine (swap_int g m c i k _ _ vi vk _ HI2.out rfl (by omega) (by omega) (by omega) (by first | exact a1 | simpa using a1) (by first | exact a0 | simpa using a0) (by first | exact a1f | simpa using a1f) (by first | exact a0f | simpa using a0f)).mono ?_
        rintro e w' ⟨rfl, kk3, rfl⟩
        have HNX := Lib.hid (step_up HH.out HL.out HF.out EI.out EK.out (by omega) (by omega) HD.out h4 _ kk3 (rfl : _ = wr.drewN kk2))
        clear HD HH HF EI EK
        generalize (((wr.drewN kk2).setCell _ _).setCell _ _).drewN kk3 = W3 at *
        go_wp2_with fail
        go_roundw
        case rel => exact ⟨i, f, _, by rw [HI2.out], by omega, by omega, HNX.out⟩
        case measure => simp [intOf]; omega
      · have hd4 : decide (vk < vi) = false := by simpa using h4
        rw [hd4]
        have hR : l' = R := by rw [← HD.out, if_neg (by rw [← EK.out, ← EI.out]; exact h4)]
        subst hR
        go_wp2_with fail
        go_end0
        exact ⟨rfl, HH.out.drewN _, HF.out.drewN _⟩

theorem mul_two (n : Nat) : ((n : Int) / 2 - 1 : Int) = (n / 2 : Nat) - 1 := by omega
theorem HpR.eq {w w' : World} {base rb g c : Nat} {l l' : List Int} (h : HpR w base rb g c l) (e : l = l') : HpR w base rb g c l' := e ▸ h
/-- how far Init has come: what is left to do is i places -/
def Hp.left_ (n : Nat) (l : List Int) (i : Nat) : List Int := (List.range i).reverse.foldl (fun l' i => Hp.down n l' i n) l
theorem Hp.left_succ (n : Nat) (l : List Int) (i : Nat) : Hp.left_ n l (i + 1) = Hp.left_ n (Hp.down n l i n) i := by simp [Hp.left_, List.range_succ]
set_option maxRecDepth 100000 in
set_option maxHeartbeats 2000000 in
theorem hinit_any (base rb : Nat) (v : Value) (l : List Int) (w : World) (h : HpV w base rb v l) (hl : l.length ≤ 100000000) :
    Calls Try.prog 38 #[rdy rb] w fun e w' => e = .returned (.tuple #[]) ∧ HpV w' base rb v (Hp.init l) ∧ Fr (fun k => v.ownBlock = some k) w w' := by
  obtain ⟨Ac, cc, hcv, hcc, hcm⟩ := owns_form h.row
  subst hcv
  have c0 := h.box.cell 0
  simp only [List.getElem?_toArray, List.getElem?_cons_zero] at c0
  have hm3 := m_len c0
  have H := Lib.hid h
  obtain ⟨R, hR⟩ : ∃ R, Hp.init l = R := ⟨_, rfl⟩
  rw [hR]
  obtain ⟨m, hm⟩ : ∃ m, m = l.length := ⟨_, rfl⟩
  have HR : Hid (Hp.left_ m l (m / 2) = R) := Lib.hid (by rw [← hR, hm]; rfl)
  rw [← hm] at c0 hm3 hl hcc ⊢
  have HM := Lib.hid hm
  have hq : 0 ≤ ((m : Int) / 2) := by omega
  have hq2 : ((m : Int) / 2) ≤ m := by omega
  clear h hm hR
  go_enter Try.func38, Try.ntmps38
  go_wp2_with fail
  refine (len_any _ _ _ _).mono ?_
  rintro e w' ⟨rfl, rfl⟩
  go_wp2_with fail
  go_loopw [3] (fun i wr => ∃ (z : Int) (k : Nat) (l' : List Int), i = .int .i64 z ∧ z + 1 = k ∧ k ≤ m / 2 ∧ Hp.left_ m l' k = R ∧ l'.length = m ∧ HpV wr base rb (.slice Ac m cc) l' ∧ Fr (fun k => (Value.slice Ac m cc).ownBlock = some k) w wr) (fun i _ => (intOf i + 1).toNat)
  case atStart => exact ⟨_, m / 2, l, rfl, by omega, Nat.le_refl _, HR.out, HM.out.symm, by rw [HM.out]; exact H.out, Fr.refl _ _⟩
  case round =>
    obtain ⟨z, k, l', rfl, hz, hk, hd, hl', hH, hF⟩ := hrel
    by_cases h0 : z < 0
    · have : k = 0 := by omega
      subst this
      have e : l' = R := by rw [← hd]; rfl
      have HH := Lib.hid hH
      have HF := Lib.hid hF
      clear hd hH hF H HR hl'
      go_wp2_with fail
      go_end0
      exact ⟨rfl, e ▸ HH.out, HF.out⟩
    · obtain ⟨j, rfl⟩ := Int.eq_ofNat_of_zero_le (by omega : 0 ≤ z)
      obtain rfl : k = j + 1 := by omega
      rw [Hp.left_succ] at hd
      obtain ⟨g, c, hv, hR⟩ := hH.pos (by omega)
      rw [hl'] at hv
      injection hv with hv1 _ hv3
      subst hv1
      subst hv3
      have HH := Lib.hid hR
      have HF := Lib.hid hF
      have HD := Lib.hid hd
      have HL := Lib.hid hl'
      clear hd hH hF H HR hR hl' hz
      go_wp2_with fail
      refine (hdown_any base rb g cc l' j m _ HH.out (by have := HL.out; omega) (by have := HL.out; omega) (by omega)).mono ?_
      rintro e w' ⟨⟨v, rfl⟩, h1, h2⟩
      have HN := Lib.hid (show Hp.left_ m (Hp.down m l' j m) j = R ∧ (Hp.down m l' j m).length = m ∧ HpV w' base rb (.slice (some ⟨g, 0, none⟩) m cc) (Hp.down m l' j m) ∧ Fr (fun k => (Value.slice (some ⟨g, 0, none⟩) m cc).ownBlock = some k) w w' from
        ⟨HD.out, (Hp.down_len _ _ _ _).trans HL.out, by have := h1.v; rwa [Hp.down_len, HL.out] at this, HF.out.trans (h2.mono fun k _ e => by subst e; rfl)⟩)
      clear h1 h2 HD HL HF HH
      go_wp2_with fail
      go_roundw
      case rel => exact ⟨_, j, _, rfl, by omega, by omega, HN.out⟩
      case measure => simp [intOf]

set_option maxRecDepth 100000 in
set_option maxHeartbeats 2000000 in
theorem hpop_any (base rb : Nat) (v : Value) (l : List Int) (w : World) (h : HpV w base rb v l) (h0 : 0 < l.length) (hl : l.length ≤ 100000000) :
    Calls Try.prog 39 #[rdy rb] w fun e w' => e = .returned (.iface 3 (.int .i64 (Hp.pop l).1)) ∧ HpPost w base rb v (Hp.pop l).2 w' := by
  obtain ⟨g, c, rfl, hR⟩ := h.pos h0
  have c0 := h.box.cell 0
  simp only [List.getElem?_toArray, List.getElem?_cons_zero] at c0
  have hm3 := m_len c0
  have hm2 := @m_swap rb
  have hm4 := m_ptr_pop rb
  have a0 := hR.at_ (i := 0) h0
  have a1 := hR.at_ (i := l.length - 1) (by omega)
  have H := Lib.hid hR
  obtain ⟨m, hm⟩ : ∃ m, l.length = m + 1 := ⟨l.length - 1, by omega⟩
  have HM := Lib.hid hm
  have e1 : l.length - 1 = m := by omega
  rw [e1] at a1
  obtain ⟨x0, ex0⟩ : ∃ v, v = Hp.at_ l 0 := ⟨_, rfl⟩
  obtain ⟨x1, ex1⟩ : ∃ v, v = Hp.at_ l m := ⟨_, rfl⟩
  rw [← ex0] at a0
  rw [← ex1] at a1
  have HS := Lib.hid (fun kk => hR.swap (i := 0) (j := m) h0 (by omega) kk)
  rw [← ex0, ← ex1] at HS
  rw [hm] at c0 hm3 hl ⊢
  obtain ⟨a0, a0f⟩ := a0
  obtain ⟨a1, a1f⟩ := a1
  clear h hR h0 hm e1 ex0 ex1
  go_enter Try.func39, Try.ntmps39
  go_wp2_with fail
  refine (len_any _ _ _ _).mono ?_
  rintro e w' ⟨rfl, rfl⟩
  go_wp2_with fail
  refine (swap_int g (m + 1) c 0 m _ _ x0 x1 _ (by rfl) (by rfl) (by omega) (by omega) (by omega) a0 a1 a0f a1f).mono ?_
  rintro e w' ⟨rfl, kk3, rfl⟩
  have HS1 := Lib.hid (HS.out kk3)
  have HF1 := Lib.hid (fr_swap (w := w) (g := g) (i := 0) (j := m) (u := .int .i64 x1) (v := .int .i64 x0) kk3)
  clear HS a0 a1 a0f a1f c0 hm2 hm3
  generalize ((w.setCell _ _).setCell _ _).drewN kk3 = W1 at *
  have HL1 : Hid ((Hp.swap l 0 m).length = m + 1) := Lib.hid ((Hp.swap_len _ _ _).trans HM.out)
  go_wp2_with fail
  refine (hdown_any base rb g c (Hp.swap l 0 m) 0 m _ HS1.out (by have := HL1.out; omega) (by have := HL1.out; omega) (by omega)).mono ?_
  rintro e w2 ⟨⟨v, rfl⟩, h1, h2⟩
  have h1' : HpR w2 base rb g c (Hp.popped l) := by
    unfold Hp.popped
    rw [HM.out]; exact h1
  have HL2 : Hid ((Hp.popped l).length = m + 1) := Lib.hid (by unfold Hp.popped; rw [Hp.down_len, Hp.swap_len, HM.out])
  have HB2 := Lib.hid h1'
  have HF2 := Lib.hid (HF1.out.trans h2)
  clear h1 h2 HS1 HF1 h1'
  go_wp2_with fail
  refine (lpop_any base rb g c (Hp.popped l) _ HB2.out (by have := HL2.out; omega) (by have := HL2.out; omega)).mono ?_
  rintro e w3 ⟨rfl, h3, h4⟩
  have HX : Hid (Hp.at_ (Hp.popped l) ((Hp.popped l).length - 1) = (Hp.pop l).1) := Lib.hid (by unfold Hp.pop; rw [HL2.out, HM.out])
  have HP : Hid (HpPost w base rb (.slice (some ⟨g, 0, none⟩) (m + 1) c) (Hp.pop l).2 w3) := Lib.hid ⟨.slice (some ⟨g, 0, none⟩) (Hp.pop l).2.length c, by have := h3.v; rwa [show (Hp.popped l).take ((Hp.popped l).length - 1) = (Hp.pop l).2 by unfold Hp.pop; rw [HL2.out, HM.out]] at this, (HF2.out.mono fun k _ e => .inr (by subst e; rfl)).trans (h4.mono fun k _ e => .inl e), fun k hk => .inl hk⟩
  rw [HX.out]
  clear h3 h4
  go_wp2_with fail
  go_ret
  exact ⟨rfl, HP.out⟩

set_option maxRecDepth 100000 in
set_option maxHeartbeats 2000000 in
theorem hpush_any (base rb : Nat) (v : Value) (l : List Int) (x : Int) (w : World) (h : HpV w base rb v l) (hbase : base ≤ w.heap.size) (hl : l.length ≤ 10000000) :
    Calls Try.prog 40 #[rdy rb, .iface 3 (.int .i64 x)] w fun e w' => e = .returned (.tuple #[]) ∧ HpPost w base rb v (Hp.push l x) w' := by
  have H := Lib.hid h
  have hm4 := m_ptr_push rb
  clear h
  go_enter Try.func40, Try.ntmps40
  go_wp2_with fail
  refine (lpush_any base rb v l x _ H.out hbase (by omega)).mono ?_
  rintro e w1 ⟨rfl, v1, hV, hF, hO⟩
  obtain ⟨g, c, rfl, hR⟩ := hV.pos (by simp)
  have c0 := hV.box.cell 0
  simp only [List.getElem?_toArray, List.getElem?_cons_zero] at c0
  have hm3 := m_len c0
  have HF := Lib.hid hF
  have HO := Lib.hid hO
  have HR := Lib.hid hR
  have HL : Hid ((l ++ [x]).length = l.length + 1) := Lib.hid (by simp)
  rw [HL.out] at c0 hm3
  obtain ⟨m, hm⟩ : ∃ m, m = l.length := ⟨_, rfl⟩
  have HM := Lib.hid hm
  rw [← hm] at c0 hm3 hl
  clear hF hO hR hV hm
  go_wp2_with fail
  refine (len_any _ _ _ _).mono ?_
  rintro e w' ⟨rfl, rfl⟩
  go_wp2_with fail
  refine (hup_any base rb g c (l ++ [x]) m (m + 1) _ HR.out (by have := HL.out; have := HM.out; omega) (by omega) (by have := HL.out; have := HM.out; omega)).mono ?_
  rintro e w2 ⟨rfl, h1, h2⟩
  have HP : Hid (HpPost w base rb v (Hp.push l x) w2) := Lib.hid ⟨.slice (some ⟨g, 0, none⟩) (Hp.push l x).length c, by have := h1.v; unfold Hp.push; rw [HM.out] at this; exact this, HF.out.then_ h2 (fun k hk e => by subst e; rcases HO.out _ rfl with h | h; exact .inr h; exact absurd hk (Nat.not_lt.2 h)), fun k hk => HO.out k hk⟩
  clear h1 h2
  go_wp2_with fail
  go_end0
  exact ⟨rfl, HP.out⟩
end Go.Proofs.Ytoklllbaihccnaa

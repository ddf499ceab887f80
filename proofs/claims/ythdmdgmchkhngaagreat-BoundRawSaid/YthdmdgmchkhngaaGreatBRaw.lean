/- BoundRaw's walk. -/
import Derived.Test.YthdmdgmchkhngaaGreatFew
import Derived.Deep.CutBlock
import Derived.Test.YthdmdgmchkhngaaGreatMnE
import Derived.Test.YthdmdgmchkhngaaGreatHolds
import Derived.Test.YthdmdgmchkhngaaGreatPt4
namespace Go.Proofs.YthdmdgmchkhngaaGreat
open Go.RowKit Mc
namespace Rw

theorem run_holds {fl : List (List (Int × Int))} {ml : List (Int × Int)} {cl : List Int} {size : Int} {c : Bd.Cost} (z : Zn) (h : Bd.program fl ml = (c, 0)) :
    ∃ T : St, T = Mc.run c.steps.toNat (begin_ ⟨fl, ml, cl, size⟩ z) ∧ T.err = 0 ∧ (T.steps : Int) ≤ c.steps ∧ (T.peak : Int) ≤ c.peak ∧ (T.stack.length : Int) = c.delta ∧ c.steps ≤ 4096 ∧ c.peak ≤ 32 := by
  obtain ⟨a1, a2, a3, a4, a5, a6, a7⟩ := Hd.holds h (s := begin_ ⟨fl, ml, cl, size⟩ z) rfl rfl rfl rfl rfl rfl rfl
  exact ⟨_, rfl, a1, a2, a3, a4, a5, a6⟩
theorem znMore {w : World} {B B' : Nat} {z : Zn} {oA uA tA eA : Option Addr} (h : ZnAt w B z oA uA tA eA) (hB : B ≤ B') : ZnAt w B' z oA uA tA eA := ⟨h.org.more hB, h.cur.more hB, h.touch.more hB, h.ends.more hB⟩
theorem pgOf {N0 B : Nat} {W : World} {A0 A1 : Option Addr} {fl : List (List (Int × Int))} {ml : List (Int × Int)} {size : Int} (hf : RowAt (codeR N0) 26 W B A0 fl) (hm : RowAt (insR N0) 61 W B A1 ml) : PgAt W B ⟨fl, ml, [], size⟩ A0 A1 none := by
  refine ⟨?_, ?_, ⟨by simp [ints], fun hp => by simp at hp⟩⟩
  · obtain ⟨vs, h1, h2⟩ := rowsR_at hf
    refine ⟨vs, h1, fun i code hc => ?_⟩
    obtain ⟨v, h3, A, c, rfl, h4⟩ := h2 i code hc
    rw [insCells_flat] at h4
    exact ⟨A, c, h3, h4⟩
  · have := codeR_reads hm
    rwa [insCells_flat] at this
theorem pgMore {w : World} {B B' : Nat} {p : Pg} {fA mA cA : Option Addr} (h : PgAt w B p fA mA cA) (hB : B ≤ B') : PgAt w B' p fA mA cA := by
  obtain ⟨⟨cs, h1, h2⟩, h3, h4⟩ := h
  exact ⟨⟨cs, h1.more hB, fun i code hc => by obtain ⟨A, c, a, b⟩ := h2 i code hc; exact ⟨A, c, a, b.more hB⟩⟩, h3.more hB, h4.more hB⟩
def cut (ll : List (List (Int × Int))) : List (List (Int × Int)) := ll.map (List.take 30)
theorem cut_len (ll : List (List (Int × Int))) : (cut ll).length = ll.length := by simp [cut]
theorem cut_small (ll : List (List (Int × Int))) : ∀ l ∈ cut ll, l.length ≤ 30 := by
  intro l hl
  simp only [cut, List.mem_map] at hl
  obtain ⟨l', _, rfl⟩ := hl
  exact List.length_take_le 30 l'
def RwV (P Af A1 : Option Addr) (np pc n nf cf nm c1 cb B : Nat) (q3 : Int) (z : Zn) (T : St) (i : Nat) (v : Value) (W : World) : Prop :=
  match i with
  | 0 => v = .agg #[.slice Af nf cf, .slice A1 nm c1, .slice none 0 0, .int .i64 12]
  | 1 => v = .slice P np pc
  | 2 => v = .slice P np pc
  | 3 => v = .int .i64 np
  | 4 => v = .int .i64 n
  | 5 => v = .slice P n pc
  | 6 => ∃ og cu tq en, v = .agg #[og, cu, tq, en] ∧ ZnOwn B W z og cu tq en
  | 7 => v = .pointer (some ⟨cb, 3, none⟩)
  | 8 => v = .int .i64 q3
  | 9 => ∃ og cu tq en cv st sk, v = .agg #[og, cu, tq, en, cv, st, sk, .int .i64 T.steps, .int .i64 T.peak, .int .i64 T.err] ∧ RanAt B T W og cu tq en cv st sk
  | 10 => ∃ g, v = .pointer (some ⟨g, 0, none⟩) ∧ B ≤ g ∧ Blk W g 43 #[.slice none 0 0, .slice none 0 0, .slice none 0 0, .slice none 0 0, .slice none 0 0, .slice none 0 0, .slice none 0 0, .int .i64 0, .int .i64 0, .int .i64 0]
  | _ => True
theorem RwV.grow {P Af A1 : Option Addr} {np pc n nf cf nm c1 cb B : Nat} {q3 : Int} {z : Zn} {T : St} {i : Nat} {v : Value} {W W' : World} (h : RwV P Af A1 np pc n nf cf nm c1 cb B q3 z T i v W) (hg : Grow W W') : RwV P Af A1 np pc n nf cf nm c1 cb B q3 z T i v W' := by
  match i with
  | 0 | 1 | 2 | 3 | 4 | 5 | 7 | 8 => exact h
  | 6 => obtain ⟨og, cu, tq, en, e, h1, h2, h3, h4⟩ := h; exact ⟨og, cu, tq, en, e, owns_grow h1 hg, owns_grow h2 hg, owns_grow h3 hg, owns_grow h4 hg⟩
  | 9 => obtain ⟨og, cu, tq, en, cv, st, sk, e, h1⟩ := h; exact ⟨og, cu, tq, en, cv, st, sk, e, h1.grow hg⟩
  | 10 => obtain ⟨g, e, h1, h2⟩ := h; exact ⟨g, e, h1, hg.blk h2 (fun x => x)⟩
  | i + 11 => trivial
/-- so many functions are laid -/
structure RwI (N0 : Nat) (w : World) (pb : Nat) (ll : List (List (Int × Int))) (ml : List (Int × Int)) (A1 : Option Addr) (c1 : Nat) (k : Nat) (Af : Option Addr) (cf : Nat) (wr : World) : Prop where
  hpb : Blk wr pb 28 #[.slice Af k cf, .slice A1 ml.length c1, .slice none 0 0, .int .i64 12]
  own : OwnAt (codeR N0) 26 (pb + 1) wr (.slice Af k cf) (cut (ll.take k))
  main : RowAt (insR N0) 61 wr pb A1 ml
  bl : Below w.heap.size w wr
theorem RwI.below {N0 : Nat} {w : World} {pb : Nat} {ll : List (List (Int × Int))} {ml : List (Int × Int)} {A1 : Option Addr} {c1 k : Nat} {Af : Option Addr} {cf : Nat} {wr wx : World} (h : RwI N0 w pb ll ml A1 c1 k Af cf wr) (hb : Below wr.heap.size wr wx) : RwI N0 w pb ll ml A1 c1 k Af cf wx :=
  ⟨h.hpb.below hb h.hpb.lt, h.own.below hb (Nat.le_refl _), h.main.below hb (Nat.le_of_lt h.hpb.lt), h.bl.trans (hb.mono h.bl.size)⟩
theorem RwI.drew {N0 : Nat} {w : World} {pb : Nat} {ll : List (List (Int × Int))} {ml : List (Int × Int)} {A1 : Option Addr} {c1 k : Nat} {Af : Option Addr} {cf : Nat} {wr : World} (h : RwI N0 w pb ll ml A1 c1 k Af cf wr) : RwI N0 w pb ll ml A1 c1 k Af cf wr.drew := h.below (Below.refl _ _).drew
def Some_ (N0 : Nat) (w : World) (pb : Nat) (ll : List (List (Int × Int))) (ml : List (Int × Int)) (A1 : Option Addr) (c1 m : Nat) (i : Value) (wr : World) : Prop :=
  ∃ (k : Nat) (Af : Option Addr) (cf : Nat), k ≤ m ∧ i = .int .i64 k ∧ RwI N0 w pb ll ml A1 c1 k Af cf wr

set_option maxHeartbeats 4000000 in
set_option maxRecDepth 100000 in
theorem boundRaw_walk (A A2 P : Option Addr) (c c2 pc : Nat) (ll : List (List (Int × Int))) (l : List (Int × Int)) (ps : List Int) (w : World) (_h1 : ll.length ≤ c) (h2 : c ≤ maxLen) (hr : RowAt (codeR w.heap.size) 26 w w.heap.size A ll)
    (k1 : l.length ≤ c2) (k2 : c2 ≤ maxLen) (kr : RowAt (insR w.heap.size) 61 w w.heap.size A2 l)
    (p1 : ps.length ≤ pc) (p2 : pc ≤ maxLen) (pr : RowAt (Repr.int (N0 := w.heap.size)) 3 w w.heap.size P ps) :
    Calls Tryz.prog 8 #[.slice A ll.length c, .slice A2 l.length c2, .slice P ps.length pc] w fun e w' => e = .returned (.bool true) ∧ Below w.heap.size w w' := by
  obtain ⟨i1, ji, jz0, jz1, jz2⟩ := info_parts rows_info
  obtain ⟨i0, gi, gz0, gz1, gz2⟩ := info_parts ins_info
  have prd : Reads w w.heap.size 1 P ps.length (ps.map (Value.int .i64)) := by
    have := pr.reads (fun x => [.int .i64 x]) fun _ _ h => h.1
    rw [List.map_eq_flatMap]
    exact this
  obtain ⟨n, hn⟩ : ∃ n, n = min ps.length 40 := ⟨_, rfl⟩
  have hnl : n ≤ ps.length ∧ n ≤ 40 := by omega
  have hni : (if (40 : Int) < (ps.length : Int) then (40 : Int) else (ps.length : Int)) = (n : Int) := by split <;> omega
  have pr2 := prd.take hnl.1
  rw [Nat.mul_one, ← List.map_take] at pr2
  have hql : (ps.take n).length = n := by rw [List.length_take]; omega
  obtain ⟨m, hm⟩ : ∃ m, m = min ll.length 20 := ⟨_, rfl⟩
  have hml : m ≤ ll.length ∧ m ≤ 20 := by omega
  obtain ⟨nl, hnl2⟩ : ∃ nl, nl = ll.length := ⟨_, rfl⟩
  have hmx : m < 20 → nl ≤ m := by omega
  have HN := Lib.hid hnl2
  have PR := Lib.hid pr2
  have HQL := Lib.hid hql
  have HR := Lib.hid hr
  have HF := Lib.hid (fun W hr => few_any w.heap.size A2 c2 l W k1 k2 hr)
  have KR := Lib.hid kr
  have hlm : (l.take 60).length ≤ 60 := List.length_take_le 60 l
  unfold maxLen at h2 k2 p2
  rw [← hnl2] at _h1 hml ⊢
  have _h2i : (c : Int) ≤ 9223372036854775807 := by omega
  have _hnpc : n ≤ pc := by omega
  have _p2i : (pc : Int) ≤ 9223372036854775807 := by omega
  clear hr prd pr pr2 kr hn h2 k2 p2 hql k1 hm hnl2
  generalize ps.length = np at *
  generalize ps.take n = qs at *
  generalize l.take 60 = ml at *
  generalize l.length = nm at *
  go_enter Tryz.func8, Tryz.ntmps8
  go_wp2_with fail
  refine (shown_any _).mono ?_
  rintro e w1 ⟨rfl, hb1⟩
  go_wp2_with fail
  refine (HF.out w1 ((KR.out.below hb1 (Nat.le_refl _)).more hb1.size)).mono ?_
  rintro e w2 ⟨A1, c1, rfl, _, hc1, hr2, hb2⟩
  have hbw2 : Below w.heap.size w w2 := hb1.trans (hb2.mono hb1.size)
  unfold maxLen at hc1
  have _hc1i : (c1 : Int) ≤ 9223372036854775807 := by omega
  clear HF KR hc1
  go_upto_region 3 with fail
  have HI : Hid (RwI w.heap.size w w2.heap.size ll ml A1 c1 0 none 0 (w2.alloc (.cells #[.slice none 0 0, .slice A1 ml.length c1, .slice none 0 0, .int .i64 12] 28))) := Lib.hid
    ⟨Blk.new _ _ _, OwnAt.nil _ _ _ _, hr2.below ((Below.refl _ _).alloc (Nat.le_refl _) _) (Nat.le_refl _), hbw2.alloc hbw2.size _⟩
  have hwz := hbw2.size
  clear hr2 hb1 hb2 hbw2
  generalize w2.alloc (.cells #[.slice none 0 0, .slice A1 ml.length c1, .slice none 0 0, .int .i64 12] 28) = X0 at *
  generalize w2.heap.size = pb at *
  go_upto_block 0 with (fail)
  go_cut [] (fun wx => ∃ Af cf, RwI w.heap.size w pb ll ml A1 c1 m Af cf wx)
  case first =>
    go_wp2_with fail
    go_loopw [9] (fun i wr => Some_ w.heap.size w pb ll ml A1 c1 m i wr) (fun i _ => m - (intOf i).toNat)
    case atStart => exact ⟨0, _, _, by omega, rfl, HI.out⟩
    case round =>
      clear HI
      obtain ⟨k, Af, cf, hk, rfl, hinv⟩ := hrel
      have hsz := hinv.bl.size
      have HI := Lib.hid hinv
      clear hinv
      by_cases hlt : k < m
      · have hk1 : (k : Int) < (nl : Int) := by omega
        have hk2 : (k : Int) < 20 := by omega
        obtain ⟨f, hf⟩ : ∃ f, ll[k]? = some f := ⟨_, List.getElem?_eq_getElem (by have := HN.out; omega)⟩
        have hRw := HR.out.below HI.out.bl (Nat.le_refl _)
        obtain ⟨b, off, cs, rfl, hbB, ⟨Al, cl, rfl, hl1, hl2, hlr⟩, hcells⟩ := hRw.get hf
        have d0 := hcells 0 _ rfl
        simp only [codeR, Repr.row, Nat.mul_one, Nat.add_zero] at d0
        have htk : cut (ll.take (k + 1)) = cut (ll.take k) ++ [f.take 30] := by rw [List.take_add_one, hf]; simp [cut]
        obtain ⟨q, hq⟩ : ∃ q, q = min f.length 30 := ⟨_, rfl⟩
        have hql2 : q ≤ f.length ∧ q ≤ 30 := by omega
        have hqi : (if (30 : Int) < (f.length : Int) then (30 : Int) else (f.length : Int)) = (q : Int) := by split <;> omega
        have hft : f.take 30 = f.take q := by rw [hq, List.take_eq_take_iff]; omega
        rw [hft] at htk
        have hfl : (f.take q).length = q := by rw [List.length_take]; omega
        have hin := codeR_ints hlr
        have hrd := (codeR_reads hlr).take hql2.1
        rw [← insCells_take] at hrd
        have HRD := Lib.hid hrd
        have HIN := Lib.hid (ints_take hin q)
        have HTK := Lib.hid htk
        have HFL := Lib.hid hfl
        unfold maxLen at hl2
        have _hl2i : (cl : Int) ≤ 9223372036854775807 := by omega
        clear hcells hRw hlr hf htk hft hq hrd hin hfl hl2
        generalize f.take q = g at *
        generalize f.length = nf at *
        go_upto_region 6 with fail
        have hS : (fun w' : World => w'.cell? ⟨pb, 0, none⟩ = some (.slice Af k cf) ∧ w'.cell? ⟨b, off + k, none⟩ = some (.slice Al nf cl)) wr.drew := ⟨by show wr.cell? _ = _; rw [HI.out.hpb.cell]; rfl, d0⟩
        have HI1 := Lib.hid (HI.out.drew)
        have _hqc : q ≤ cl := by omega
        go_wp2_with fail
        refine wp_region_seqT (fun i => !([2, 14, 15, 16, 18] : List Nat).contains i) (fun i => ([1, 6, 10] : List Nat).contains i) (fun i => ([2, 14, 15] : List Nat).contains i) [0, 1, 3, 4, 5, 6, 7, 8, 9, 10, 11, 12, 13, 2, 14, 15, 16, 17, 18] (fun w' => w'.cell? ⟨pb, 0, none⟩ = some (.slice Af k cf) ∧ w'.cell? ⟨b, off + k, none⟩ = some (.slice Al nf cl)) (by as_aux_lemma => kernel_rfl) (by as_aux_lemma => kernel_rfl) (by as_aux_lemma => kernel_rfl) (by as_aux_lemma => kernel_rfl) ?_
        refine wpSeq_pure (v := _) rfl rfl rfl (by kernel_rfl) (fun _ _ _ h => h) (fun wq => by first | (go_simp; done) | (go_simp; rfl)) ?_
        refine wpSeq_load (v := _) rfl rfl (by kernel_rfl) (fun _ _ _ h => h) hS rfl (fun wq hq => by obtain ⟨hq1, hq2⟩ := hq; first | (go_simp; done) | (go_simp; rfl)) ?_
        refine wpSeq_pure (v := _) rfl rfl rfl (by kernel_rfl) (fun _ _ _ h => h) (fun wq => by first | (go_simp; done) | (go_simp; rfl)) ?_
        refine wpSeq_pure (v := _) rfl rfl rfl (by kernel_rfl) (fun _ _ _ h => h) (fun wq => by first | (go_simp; done) | (go_simp; rfl)) ?_
        refine wpSeq_pure (v := _) rfl rfl rfl (by kernel_rfl) (fun _ _ _ h => h) (fun wq => by first | (go_simp; done) | (go_simp; rfl)) ?_
        refine wpSeq_load (v := _) rfl rfl (by kernel_rfl) (fun _ _ _ h => h) hS rfl (fun wq hq => by obtain ⟨hq1, hq2⟩ := hq; first | (go_simp; done) | (go_simp; rfl)) ?_
        refine wpSeq_pure (v := _) rfl rfl rfl (by kernel_rfl) (fun _ _ _ h => h) (fun wq => by first | (go_simp; done) | (go_simp; rfl)) ?_
        refine wpSeq_pure (v := _) rfl rfl rfl (by kernel_rfl) (fun _ _ _ h => h) (fun wq => by first | (go_simp; done) | (go_simp; rfl)) ?_
        refine wpSeq_pure (v := _) rfl rfl rfl (by kernel_rfl) (fun _ _ _ h => h) (fun wq => by first | (go_simp; done) | (go_simp; rfl)) ?_
        refine wpSeq_load (v := _) rfl rfl (by kernel_rfl) (fun _ _ _ h => h) hS rfl (fun wq hq => by obtain ⟨hq1, hq2⟩ := hq; first | (go_simp; done) | (go_simp; rfl)) ?_
        refine wpSeq_pure (v := _) rfl rfl rfl (by kernel_rfl) (fun _ _ _ h => h) (fun wq => by first | (go_simp; done) | (go_simp; rfl)) ?_
        refine wpSeq_pure (v := _) rfl rfl rfl (by kernel_rfl) (fun _ _ _ h => h) (fun wq => by first | (go_simp; done) | (go_simp; rfl)) ?_
        refine wpSeq_pure (v := _) rfl rfl rfl (by kernel_rfl) (fun _ _ _ h => h) (fun wq => by first | (go_simp; done) | (go_simp; rfl)) ?_
        have hb12 : Below wr.drew.heap.size wr.drew (wr.drew.alloc (.cells #[] 61)) := (Below.refl _ _).alloc (Nat.le_refl _) _
        have hown2 := own_empty wr.drew 61 2 wr.drew.heap.size (Nat.le_refl _)
        have hpbl := HI1.out.hpb.lt
        have hbl : b < wr.drew.heap.size := Nat.lt_of_lt_of_le hbB hsz
        have hS1 : wr.drew.cell? ⟨b, off + k, none⟩ = some (.slice Al nf cl) := d0
        have HD := Lib.hid hS1
        have hrd1 : Reads wr.drew w.heap.size 2 Al q (insCells g) := HRD.out
        have HRD1 := Lib.hid hrd1
        clear HI HRD hS1 hrd1 d0 hsz
        generalize wr.drew = X1 at *
        have hS2 : (X1.alloc (.cells #[] 61)).cell? ⟨pb, 0, none⟩ = some (.slice Af k cf) ∧ (X1.alloc (.cells #[] 61)).cell? ⟨b, off + k, none⟩ = some (.slice Al nf cl) := ⟨by rw [(HI1.out.hpb.below hb12 hpbl).cell]; rfl, by rw [hb12.cell hbl]; exact HD.out⟩
        refine wpSeq_heavy rfl rfl (fun K hK => ?_); go_simp
        refine hK _ _ (fun _ => hS2) ?_; clear hK K
        clear hS hS2
        refine wpSeq_heavy rfl rfl (fun K hK => ?_)
        refine step_own _ rfl (.tmp 29) (.tmp 40) _ rfl X1.heap.size 61 i0 _ 2 16 Tryz.underlying26 gi gz0 gz1 gz2 rfl (by decide) (.slice (some ⟨X1.heap.size, 0, none⟩) 0 0) 0 [] rfl hown2 w.heap.size Al q cl (insCells g) rfl (HRD1.out.below hb12 HI1.out.bl.size) (insCells_one g) (by unfold maxLen; omega) (by omega) (by simp) ?_
        intro v3 w3 hown3 hg3 _
        rw [Nat.zero_add, List.nil_append] at hown3
        have hb13 : Below X1.heap.size X1 w3 := Below.grown hb12 hg3 (by simp) (fun k hk => by simp [Value.ownBlock] at hk; omega)
        obtain ⟨Ae, ae, rfl, hae1, hae2, hrow3⟩ := (own_ins (N0 := w.heap.size) HIN.out (by rw [HFL.out]; exact hown3)).form
        rw [HFL.out] at hae1 ⊢
        have HI3 := Lib.hid (HI1.out.below hb13)
        have hS3 : w3.cell? ⟨pb, 0, none⟩ = some (.slice Af k cf) ∧ w3.cell? ⟨b, off + k, none⟩ = some (.slice Al nf cl) := ⟨by rw [HI3.out.hpb.cell]; rfl, by rw [hb13.cell hbl]; exact HD.out⟩
        have HROW3 := Lib.hid hrow3
        have hbl3 : b < w3.heap.size := Nat.lt_of_lt_of_le hbl hb13.size
        have hD3 : w3.cell? ⟨b, off + k, none⟩ = some (.slice Al nf cl) := hS3.2
        clear hown3 hg3 hb13 hb12 hown2 hrow3 HI1 HD HRD1 hbl
        refine hK _ _ (fun _ => hS3) ?_; clear hK K
        have hb34 : Below w3.heap.size w3 (w3.alloc (.cells #[.slice Ae q ae] 26)) := (Below.refl _ _).alloc (Nat.le_refl _) _
        have HI4 := Lib.hid (HI3.out.below hb34)
        have hS4 : (w3.alloc (.cells #[.slice Ae q ae] 26)).cell? ⟨pb, 0, none⟩ = some (.slice Af k cf) ∧ (w3.alloc (.cells #[.slice Ae q ae] 26)).cell? ⟨b, off + k, none⟩ = some (.slice Al nf cl) := ⟨by rw [HI4.out.hpb.cell]; rfl, by rw [hb34.cell hbl3]; exact hD3⟩
        refine wpSeq_heavy rfl rfl (fun K hK => ?_); go_simp
        refine hK _ _ (fun _ => hS4) ?_; clear hK K
        have hcl : (cut (ll.take k)).length = k := by rw [cut_len, List.length_take]; have := HN.out; omega
        have HCL := Lib.hid hcl
        have HO4 := Lib.hid HI4.out.own
        have hwr : (codeR w.heap.size).rel (w3.alloc (.cells #[.slice Ae q ae] 26)) (w3.alloc (.cells #[.slice Ae q ae] 26)).heap.size g [.slice Ae q ae] := by
          refine ⟨Ae, ae, by rw [HFL.out], by rw [HFL.out]; exact hae1, hae2, (HROW3.out.below hb34 (Nat.le_refl _)).more hb34.size⟩
        clear hcl
        refine wpSeq_heavy rfl rfl (fun K hK => ?_)
        refine step_push _ rfl (.tmp 28) (.tmp 42) _ rfl (codeR w.heap.size) (pb + 1) 26 i1 _ 24 Tryz.underlying25 ji jz0 jz1 jz2 rfl (show 0 < 1 by decide) (by show 26 ∉ [61]; decide) (by omega) (.slice Af k cf) (cut (ll.take k)) rfl HO4.out w3.heap.size [_] g rfl (Blk.new _ _ _) hwr (by rw [HCL.out]; unfold maxLen; omega) (by rw [HCL.out]; omega) (by have := HI4.out.hpb.lt; omega) ?_
        intro A5 c5 w5 hown5 hg5
        rw [HCL.out] at hown5 ⊢
        have hb45 : Below (pb + 1) (w3.alloc (.cells #[.slice Ae q ae] 26)) w5 := below_own HO4.out (Below.refl _ _) hg5 (by have := HI4.out.hpb.lt; omega) (Nat.le_refl _)
        have hp5 := HI4.out.hpb.below hb45 (Nat.lt_succ_self _)
        have HM5 := Lib.hid (HI4.out.main.below hb45 (Nat.le_succ _))
        have HW5 := Lib.hid (HI4.out.bl.trans (hb45.mono (by omega)))
        have HO5 := Lib.hid hown5
        have HP5 := Lib.hid hp5
        have b0 := hp5.cell 0
        have b1 := hp5.frozen 0
        have b2 := hp5.lt
        simp only [List.getElem?_toArray, List.getElem?_cons_zero] at b0
        clear hown5 hg5 hb45 hp5 hb34 HI4 HO4 HI3 hS4 hwr HROW3 hbl3 hD3 hS3
        refine hK _ _ (fun h => by cases h) ?_; clear hK K
        refine wpSeq_pure (v := _) rfl rfl rfl (by kernel_rfl) (fun _ _ _ h => h) (fun wq => by first | (go_simp; done) | (go_simp; rfl)) ?_
        refine wpSeq_heavy rfl rfl (fun K hK => ?_); go_simp
        refine hK _ _ (fun h => by cases h) ?_; clear hK K
        refine wpSeq_end ?_
        have HI6 : Hid (RwI w.heap.size w pb ll ml A1 c1 (k + 1) A5 c5 (w5.setCell ⟨pb, 0, none⟩ (.slice A5 (k + 1) c5))) := Lib.hid
          ⟨HP5.out.set_ 0 _, by rw [HTK.out]; exact HO5.out.setCell HP5.out (by show 28 ∉ [26, 61]; decide) (by omega) 0 _, HM5.out.below ((Below.refl pb w5).setCell (p := ⟨pb, 0, none⟩) (Nat.le_refl _) _) (Nat.le_refl _), HW5.out.setCell (p := ⟨pb, 0, none⟩) (by omega) _⟩
        clear HP5 HO5 HM5 HW5 b0 b1 b2 HTK HCL
        go_wp2_with fail
        go_roundw
        case rel => exact ⟨k + 1, A5, c5, by omega, by go_num, HI6.out⟩
        case measure => simp [intOf]; omega
      · obtain rfl : k = m := by omega
        by_cases hk2 : (k : Int) < (nl : Int)
        · have hk3 : ¬ (k : Int) < 20 := by omega
          go_wp2_with fail
          go_meet
          exact ⟨_, _, HI.out⟩
        · go_wp2_with fail
          go_meet
          exact ⟨_, _, HI.out⟩
  case rest =>
    obtain ⟨Af, cf, hi⟩ := hcut
    obtain ⟨fl, hfl⟩ : ∃ fl, fl = cut (ll.take m) := ⟨_, rfl⟩
    have hfm : fl.length = m := by rw [hfl, cut_len, List.length_take]; have := HN.out; omega
    have hfs : ∀ f ∈ fl, f.length ≤ 30 := by rw [hfl]; exact cut_small _
    have hown := hi.own
    rw [← hfl] at hown
    subst hfm
    have hpb := hi.hpb
    have hmain := hi.main
    have hbw := hi.bl
    obtain ⟨Af', cf', ee, _, hcf, hrf⟩ := hown.form
    simp only [Value.slice.injEq] at ee
    obtain ⟨rfl, _, rfl⟩ := ee
    clear hi hfl HI HR HN hown
    have hsm : ∀ l ∈ fl, l.length ≤ 1000000000000 := fun l hl => by have := hfs l hl; omega
    have hsm2 : ml.length ≤ 1000000000000 := by omega
    have hPG : PgAt wc wc.heap.size ⟨fl, ml, [], 12⟩ Af A1 none := pgOf hrf (hmain.more (Nat.le_of_lt hpb.lt))
    have hprog := program_any Af A1 cf c1 wc.heap.size (.slice none 0 0) 12 fl ml wc ⟨_, _, _, rfl⟩ (rowsR_at hrf) ((codeR_reads hmain).more (Nat.le_of_lt hpb.lt)) (Nat.le_refl _) hsm hsm2
    have HPROG := Lib.hid hprog
    have HPB0 := Lib.hid hpb
    have HPG0 := Lib.hid hPG
    have HBW0 := Lib.hid hbw
    have HPO : Hid (PgOk ⟨fl, ml, [], 12⟩) := Lib.hid ⟨by simp only; omega, fun c hc => by have := hfs c hc; omega, by simp only; omega, by simp⟩
    have HOK := Lib.hid (fun z c (h : Bd.program fl ml = (c, 0)) => run_holds (cl := []) (size := 12) z h)
    rcases hpe : Bd.program fl ml with ⟨⟨q0, q1, q2, q3⟩, pe⟩
    rw [hpe] at HPROG
    have HPE := Lib.hid hpe
    have y0 := hpb.cell 0
    have y1 := hpb.cell 1
    have y2 := hpb.cell 2
    have y3 := hpb.cell 3
    simp only [List.getElem?_toArray, List.getElem?_cons_zero, List.getElem?_cons_succ] at y0 y1 y2 y3
    have yl := hpb.lt
    clear hprog hpb hPG hbw hmain hrf hsm hsm2 hpe hfs
    go_wp2_with fail
    refine HPROG.out.mono ?_
    rintro e w3 ⟨rfl, hb3⟩
    simp only [costV]
    have HPB3 := Lib.hid (HPB0.out.below hb3 yl)
    have HPG3 := Lib.hid (HPG0.out.keep (W' := w3) fun q hq => hb3.cell hq)
    have HBW3 := Lib.hid (HBW0.out.trans (hb3.mono HBW0.out.size))
    have hx3 := hb3.size
    clear HPROG HPB0 HPG0 HBW0 hb3 y0 y1 y2 y3
    go_upto_region 8 with fail
    have HPB := Lib.hid (HPB3.out.alloc (.cells #[.int .i64 q0, .int .i64 q1, .int .i64 q2, .int .i64 q3] 54))
    have HPG := Lib.hid ((HPG3.out.keep (W' := w3.alloc (.cells #[.int .i64 q0, .int .i64 q1, .int .i64 q2, .int .i64 q3] 54)) fun q hq => World.cell?_alloc_lt _ _ _ (by omega)))
    have HBW := Lib.hid (HBW3.out.alloc HBW3.out.size (.cells #[.int .i64 q0, .int .i64 q1, .int .i64 q2, .int .i64 q3] 54))
    have HCB := Lib.hid (Blk.new w3 54 #[.int .i64 q0, .int .i64 q1, .int .i64 q2, .int .i64 q3])
    have hpc : ¬ pb = w3.heap.size := by omega
    have hx4 : wc.heap.size ≤ (w3.alloc (.cells #[.int .i64 q0, .int .i64 q1, .int .i64 q2, .int .i64 q3] 54)).heap.size := by simp; omega
    clear HPB3 HPG3 HBW3
    generalize w3.alloc (.cells #[.int .i64 q0, .int .i64 q1, .int .i64 q2, .int .i64 q3] 54) = X at *
    generalize w3.heap.size = cb at *
    clear hx3
    by_cases hz : pe = 0
    · subst hz
      go_upto_region 10 with fail
      have HZO : Hid (ZnOk (zn4 qs (n4 qs))) := Lib.hid (zn4_ok qs _ (by unfold n4; omega))
      obtain ⟨T, hT, t1, t2, t3, t4, t5, t6⟩ := HOK.out (zn4 qs (n4 qs)) _ HPE.out
      simp only at hT t2 t3 t4 t5 t6
      have HT := Lib.hid hT
      clear hT HOK HPE
      have hzq : qs.length = n := HQL.out
      have HP9 := Lib.hid (fun W h hB => points4_any P pc w.heap.size qs W h hB (by omega))
      rw [hzq] at HP9
      clear hzq
      generalize zn4 qs (n4 qs) = z at *
      refine wp_region_conc (RwV P Af A1 np pc n fl.length cf ml.length c1 cb X.heap.size q3 z T) (fun W => Grow X W) Grow (by as_aux_lemma => kernel_rfl) (by as_aux_lemma => kernel_rfl) 11 rfl ?_ ?_ ?_ ?_
      · intro i v W W' hv hr
        exact hv.grow hr
      · exact (Fr.refl _ _).drew
      · intro j ev val W hj hG hev hd
        have _ec := hev.const
        have _ef := hev.func
        have HGG := Lib.hid hG
        have hzW := hG.size
        clear hG
        match j, hj with
        | 0, _ =>
          have _s8 : ev (.tmp 8) = .pointer (some ⟨pb, 0, none⟩) := hev.other 8 (by kernel_rfl)
          have hp := HGG.out.blk HPB.out (fun x => x)
          have y0 := hp.cell 0
          have y1 := hp.cell 1
          have y2 := hp.cell 2
          have y3 := hp.cell 3
          simp only [List.getElem?_toArray, List.getElem?_cons_zero, List.getElem?_cons_succ] at y0 y1 y2 y3
          have pl := hp.lt
          clear hp
          refine ⟨_, rfl, rfl, ?_⟩; unfold yields; go_simp
          exact ⟨rfl, HGG.out, Fr.refl _ _⟩
        | 1, _ =>
          have _s2 : ev (.tmp 2) = .slice P np pc := hev.other 2 (by kernel_rfl)
          refine ⟨_, rfl, rfl, ?_⟩; unfold yields; go_simp
          exact ⟨rfl, HGG.out, Fr.refl _ _⟩
        | 2, _ =>
          have _s2 : ev (.tmp 2) = .slice P np pc := hev.other 2 (by kernel_rfl)
          refine ⟨_, rfl, rfl, ?_⟩; unfold yields; go_simp
          exact ⟨rfl, HGG.out, Fr.refl _ _⟩
        | 3, _ =>
          have d2 := hd 2 (by kernel_rfl); have x2 := hev.dep 2 55 (by kernel_rfl) (by kernel_rfl); simp only [RwV] at d2
          rw [d2] at x2
          refine ⟨_, rfl, rfl, ?_⟩; unfold yields; go_simp
          exact ⟨rfl, HGG.out, Fr.refl _ _⟩
        | 4, _ =>
          have d3 := hd 3 (by kernel_rfl); have x3 := hev.dep 3 56 (by kernel_rfl) (by kernel_rfl); simp only [RwV] at d3
          rw [d3] at x3
          refine ⟨_, rfl, rfl, ?_⟩; unfold yields; go_simp
          exact ⟨rfl, HGG.out, Fr.refl _ _⟩
        | 5, _ =>
          have d1 := hd 1 (by kernel_rfl); have x1 := hev.dep 1 54 (by kernel_rfl) (by kernel_rfl); simp only [RwV] at d1
          rw [d1] at x1
          have d4 := hd 4 (by kernel_rfl); have x4 := hev.dep 4 57 (by kernel_rfl) (by kernel_rfl); simp only [RwV] at d4
          rw [d4] at x4
          refine ⟨_, rfl, rfl, ?_⟩; unfold yields; go_simp
          exact ⟨rfl, HGG.out, Fr.refl _ _⟩
        | 6, _ =>
          have d5 := hd 5 (by kernel_rfl); have x5 := hev.dep 5 58 (by kernel_rfl) (by kernel_rfl); simp only [RwV] at d5
          rw [d5] at x5
          refine ⟨_, rfl, rfl, ?_⟩; unfold yields; go_simp
          refine (HP9.out W ((PR.out.below HBW.out (Nat.le_refl _)).keep fun q hq => HGG.out.cell (by have := HBW.out.size; omega) (fun x => x)) (by have := HBW.out.size; omega)).mono ?_
          rintro e w6 ⟨og, cu, tq, en, rfl, ⟨o1, o2, o3, o4⟩, hg6⟩
          exact ⟨_, rfl, ⟨_, _, _, _, rfl, owns_mono o1 (by omega), owns_mono o2 (by omega), owns_mono o3 (by omega), owns_mono o4 (by omega)⟩, HGG.out.trans hg6, hg6⟩
        | 7, _ =>
          have _s10 : ev (.tmp 10) = .pointer (some ⟨cb, 0, none⟩) := hev.other 10 (by kernel_rfl)
          have cl := (HGG.out.blk HCB.out (fun x => x)).lt
          refine ⟨_, rfl, rfl, ?_⟩; unfold yields; go_simp
          exact ⟨rfl, HGG.out, Fr.refl _ _⟩
        | 8, _ =>
          have d7 := hd 7 (by kernel_rfl); have x7 := hev.dep 7 60 (by kernel_rfl) (by kernel_rfl); simp only [RwV] at d7
          rw [d7] at x7
          have hp := HGG.out.blk HCB.out (fun x => x)
          have y3 := hp.cell 3
          simp only [List.getElem?_toArray, List.getElem?_cons_zero, List.getElem?_cons_succ] at y3
          have cl := hp.lt
          clear hp
          refine ⟨_, rfl, rfl, ?_⟩; unfold yields; go_simp
          exact ⟨rfl, HGG.out, Fr.refl _ _⟩
        | 9, _ =>
          have d0 := hd 0 (by kernel_rfl); have x0 := hev.dep 0 53 (by kernel_rfl) (by kernel_rfl); simp only [RwV] at d0
          rw [d0] at x0
          have d6 := hd 6 (by kernel_rfl); have x6 := hev.dep 6 59 (by kernel_rfl) (by kernel_rfl); simp only [RwV] at d6
          have d8 := hd 8 (by kernel_rfl); have x8 := hev.dep 8 61 (by kernel_rfl) (by kernel_rfl); simp only [RwV] at d8
          rw [d8] at x8
          obtain ⟨og, cu, tq, en, hv, o1, o2, o3, o4⟩ := d6
          obtain ⟨E1, g1, rfl, _⟩ := owns_form o1
          obtain ⟨E2, g2, rfl, _⟩ := owns_form o2
          obtain ⟨E3, g3, rfl, _⟩ := owns_form o3
          obtain ⟨E4, g4, rfl, _⟩ := owns_form o4
          rw [hv] at x6
          have HZA : Hid (ZnAt W W.heap.size z E1 E2 E3 E4) := Lib.hid ⟨Reads.of_own o1, Reads.of_own o2, Reads.of_own o3, Reads.of_own o4⟩
          clear o1 o2 o3 o4 hv
          refine ⟨_, rfl, rfl, ?_⟩; unfold yields; go_simp
          refine (run_any W ⟨fl, ml, [], 12⟩ z HPO.out HZO.out Af A1 none E1 E3 E4 E2 cf c1 0 g1 g3 g4 g2 (pgMore (HPG.out.keep (W' := W) fun q hq => HGG.out.cell (by omega) (fun x => x)) (by omega)) HZA.out q3 (by omega)).mono ?_
          rintro e w8 ⟨og, cu, tq, en, cv, st, sk, rfl, hra, hbl⟩
          rw [← HT.out] at hra ⊢
          exact ⟨_, rfl, ⟨_, _, _, _, _, _, _, rfl, hra.mono hzW⟩, HGG.out.trans (Fr.of_below hbl (fun k hk _ => hk)), Fr.of_below hbl (fun k hk _ => hk)⟩
        | 10, _ =>
          refine ⟨_, rfl, rfl, ?_⟩; unfold yields; go_simp
          exact ⟨⟨_, rfl, hzW, Blk.new _ _ _⟩, HGG.out.alloc _, (Fr.refl _ _).alloc _⟩
        | i + 11, hi => exact absurd hi (by simp)
      intro val W hG hV
      have v9 := hV 9 (by simp)
      have v10 := hV 10 (by simp)
      simp only [RwV] at v9 v10
      obtain ⟨og, cu, tq, en, cv, st, sk, hv, hra⟩ := v9
      obtain ⟨rb, hv2, hrb, hbk⟩ := v10
      rw [t1] at hv
      have hbX : Below X.heap.size X W := Grow.below hG (Nat.le_refl _)
      obtain ⟨F1, f1, rfl, _⟩ := owns_form hra.og
      obtain ⟨F2, f2, rfl, _⟩ := owns_form hra.cu
      obtain ⟨F3, f3, rfl, _⟩ := owns_form hra.to
      obtain ⟨F4, f4, rfl, _⟩ := owns_form hra.en
      obtain ⟨F5, f5, rfl, _⟩ := owns_form hra.cv
      obtain ⟨F6, f6, rfl, _⟩ := owns_form hra.st
      obtain ⟨F7, f7, rfl, _⟩ := owns_form hra.sk
      have hst := stores_ran hbk hra hrb hbX (.slice F1 T.org.length f1) (.slice F2 T.cur.length f2) (.slice F3 T.touch.length f3) (.slice F4 T.ends.length f4) (.slice F5 T.cvt.length f5) (.slice F6 32 f6) (.slice F7 T.stack.length f7) (.int .i64 T.steps) (.int .i64 T.peak) (.int .i64 0)
      have HST := Lib.hid hst
      have b0 := hbk.cell
      have b1 := hbk.frozen
      have b2 := hbk.lt
      clear hV hst hbk hra hbX hG
      unfold wpOp
      change (if _ then _ else _)
      rw [if_pos (by kernel_rfl)]
      refine .inl ?_
      simp only [fillA, dstOf, List.getElem?_toArray, List.getElem?_cons_zero, List.getElem?_cons_succ, Option.bind_some]
      rw [hv, hv2]
      go_simp
      unfold set10 at HST
      generalize ((((((((((W.setCell ⟨rb, 0, none⟩ (.slice F1 T.org.length f1)).setCell ⟨rb, 1, none⟩ (.slice F2 T.cur.length f2)).setCell ⟨rb, 2, none⟩ (.slice F3 T.touch.length f3)).setCell ⟨rb, 3, none⟩ (.slice F4 T.ends.length f4)).setCell ⟨rb, 4, none⟩ (.slice F5 T.cvt.length f5)).setCell ⟨rb, 5, none⟩ (.slice F6 32 f6)).setCell ⟨rb, 6, none⟩ (.slice F7 T.stack.length f7)).setCell ⟨rb, 7, none⟩ (.int .i64 T.steps)).setCell ⟨rb, 8, none⟩ (.int .i64 T.peak)).setCell ⟨rb, 9, none⟩ (.int .i64 0)) = X9 at HST ⊢
      have e2 := HST.out.2.2.lt
      have e1 := HST.out.2.2.cell
      simp only [List.setIfInBounds_toArray, List.set_cons_zero, List.set_cons_succ] at e1
      have HW9 := Lib.hid (HBW.out.trans (HST.out.2.1.mono HBW.out.size))
      have hc9 := HCB.out.below HST.out.2.1 HCB.out.lt
      have r6 := e1 6
      have r7 := e1 7
      have r8 := e1 8
      have r9 := e1 9
      have v1 := hc9.cell 1
      have v2 := hc9.cell 2
      have v3 := hc9.cell 3
      have vl := hc9.lt
      simp only [List.getElem?_toArray, List.getElem?_cons_zero, List.getElem?_cons_succ] at v1 v2 v3 r6 r7 r8 r9
      clear hc9 HST HBW HCB HPB HPG HPO HT HP9 e1 b0 b1 b2 hv hv2
      go_wp2_with fail
      go_ret
      exact ⟨rfl, HW9.out⟩
    · have hzb : (pe != 0) = true := by simpa using hz
      go_wp2_with fail
      go_ret
      exact ⟨rfl, HBW.out⟩
end Rw
end Go.Proofs.YthdmdgmchkhngaaGreat

/- bound.Funcs, whole, Program: their contracts. -/
import Derived.Test.YtgklchhgpnoliaaBoundK
import Derived.Test.YtgklchhgpnoliaaAppend
import Derived.Test.YtgklchhgpnoliaaBoundSpecB
namespace Go.Proofs.Ytgklchhgpnoliaa
open Go.RowKit

/-- a slice of instructions; a slice of slices of instructions -/
def InsAt (w : World) (B : Nat) (v : Value) (l : List (Int × Int)) : Prop := ∃ A c, v = .slice A l.length c ∧ Reads w B 2 A l.length (insCells l)
def RowsAt (w : World) (B : Nat) (A : Option Addr) (ll : List (List (Int × Int))) : Prop :=
  ∃ vs : List Value, Reads w B 1 A ll.length vs ∧ ∀ (i : Nat) (l : List (Int × Int)), ll[i]? = some l → ∃ v, vs[i]? = some v ∧ InsAt w B v l
theorem InsAt.below {w w' : World} {B C : Nat} {v : Value} {l : List (Int × Int)} (h : InsAt w B v l) (hb : Below C w w') (hC : B ≤ C) : InsAt w' B v l := by
  obtain ⟨A, c, e, hr⟩ := h
  exact ⟨A, c, e, hr.below hb hC⟩
theorem InsAt.more {w : World} {B B' : Nat} {v : Value} {l : List (Int × Int)} (h : InsAt w B v l) (hb : B ≤ B') : InsAt w B' v l := by
  obtain ⟨A, c, e, hr⟩ := h
  exact ⟨A, c, e, hr.more hb⟩
theorem RowsAt.below {w w' : World} {B C : Nat} {A : Option Addr} {ll : List (List (Int × Int))} (h : RowsAt w B A ll) (hb : Below C w w') (hC : B ≤ C) : RowsAt w' B A ll := by
  obtain ⟨vs, hr, hi⟩ := h
  exact ⟨vs, hr.below hb hC, fun i l hl => by obtain ⟨v, h1, h2⟩ := hi i l hl; exact ⟨v, h1, h2.below hb hC⟩⟩
theorem RowsAt.more {w : World} {B B' : Nat} {A : Option Addr} {ll : List (List (Int × Int))} (h : RowsAt w B A ll) (hb : B ≤ B') : RowsAt w B' A ll := by
  obtain ⟨vs, hr, hi⟩ := h
  exact ⟨vs, hr.more hb, fun i l hl => by obtain ⟨v, h1, h2⟩ := hi i l hl; exact ⟨v, h1, h2.more hb⟩⟩

/-- what Funcs hands back -/
def FuncsPost (w : World) (r : List Bd.Cost × Int × Int) (e : Ending) (w' : World) : Prop :=
  ∃ A c, e = .returned (.tuple #[.slice A r.1.length c, .int .i64 r.2.1, .int .i64 r.2.2]) ∧ Reads w' w'.heap.size 4 A r.1.length (costCells r.1) ∧ Below w.heap.size w w'

theorem cost_info : (Try.prog.info? 28).map (fun i => (i.zero, i.size, i.bytes)) = some (some (.agg #[.int .i64 0, .int .i64 0, .int .i64 0, .int .i64 0]), 4, 32) := by kernel_rfl
theorem costCells_app (a b : List Bd.Cost) : costCells (a ++ b) = costCells a ++ costCells b := by
  induction a with
  | nil => rfl
  | cons p r ih => simp [costCells, ih]

theorem own_form {w : World} {base : Nat} {e : TypeId} {size n : Nat} {v : Value} {xs : List Value} (h : w.ownsRow base e size v n xs) : ∃ A c, v = .slice A n c ∧ Reads w w.heap.size size A n xs := by
  rcases h.2 with ⟨rfl, rfl⟩ | ⟨g, cap, cur, rfl, _⟩
  · exact ⟨none, 0, rfl, Reads.of_own (c := 0) h⟩
  · exact ⟨_, cap, rfl, Reads.of_own h⟩

set_option maxHeartbeats 400000 in
theorem funcs_many (A : Option Addr) (n c : Nat) (w : World) (hn : 20 < n) :
    Calls Try.prog 13 #[.slice A n c] w fun e w' => e = .returned (.tuple #[.slice none 0 0, .int .i64 20, .int .i64 2]) ∧ w = w' := by
  have h : (20 : Int) < n := by omega
  go_enter Try.func13, Try.ntmps13
  go_wp2
  go_ret3
  exact ⟨rfl, rfl⟩

set_option maxHeartbeats 1000000 in
theorem funcs_few (A : Option Addr) (c B : Nat) (ll : List (List (Int × Int))) (w : World) (hR : RowsAt w B A ll) (hB : B ≤ w.heap.size) (hn : ll.length ≤ 20) (hlen : ∀ l ∈ ll, l.length ≤ 1000000000000) :
    Calls Try.prog 13 #[.slice A ll.length c] w (FuncsPost w (Bd.funcsGo ll 0 [])) := by
  obtain ⟨i0, hi, hz0, hz1, hz2⟩ := info_parts cost_info
  obtain ⟨n, hnn⟩ : ∃ n, n = ll.length := ⟨_, rfl⟩
  rw [← hnn] at hn ⊢
  have hmk := fun W => make_rowN (P := Try.prog) 36 28 i0 _ Try.underlying36 hi hz0 .i64 .i64 0 n (Nat.zero_le _) (by rw [hz2]; omega) (by omega) W
  rw [hz1, show ((0 : Nat) : Int) = 0 from rfl] at hmk
  have HN := Lib.hid hnn
  have HR := Lib.hid hR
  have HLEN := Lib.hid hlen
  have h20 : ¬ (20 : Int) < n := by omega
  clear hnn hR hlen
  go_enter Try.func13, Try.ntmps13
  go_wp2_with fail
  go_loopw [5, 19] (fun v i wr => ∃ (k : Nat) (cs : List Bd.Cost), k ≤ n ∧ i = .int .i64 k ∧ cs.length = k ∧ wr.ownsRow w.heap.size 28 4 v cs.length (costCells cs) ∧ Bd.funcsGo (ll.drop k) k cs = Bd.funcsGo ll 0 [] ∧ Below w.heap.size w wr) (fun _ i _ => n - (intOf i).toNat)
  case atStart =>
    refine ⟨0, [], by omega, rfl, rfl, ⟨rfl, .inr ⟨w.heap.size, n, _, rfl, Nat.le_refl _, heap_alloc_new w _, by simp, by unfold maxLen; omega, size_madeCells _ _, by simp [costCells]⟩⟩, by simp, (Below.refl _ _).alloc (Nat.le_refl _) _⟩
  case round =>
    obtain ⟨k, cs, hk, rfl, hcl, hown, hgo, hb⟩ := hrel
    obtain ⟨A', c', rfl, hrd⟩ := own_form hown
    have HOWN := Lib.hid hown
    have HGO := Lib.hid hgo
    have HCL := Lib.hid hcl
    have hsz := hb.size
    have hck : cs.length ≤ k ∧ k ≤ cs.length := by omega
    clear hown hgo hcl
    by_cases hlt : k < n
    · obtain ⟨l, hl⟩ : ∃ l, ll[k]? = some l := ⟨_, List.getElem?_eq_getElem (by have := HN.out; omega)⟩
      have hRw := HR.out.below hb hB
      obtain ⟨vs, hvs, hin⟩ := hRw
      obtain ⟨v, hv, Al, cl, rfl, hlr⟩ := hin k l hl
      obtain ⟨b, off, rfl, hbB, hcells⟩ := hvs.2 (by have := HN.out; omega)
      have d0 := hcells _ _ hv
      have hdrop : ll.drop k = l :: ll.drop (k + 1) := by
        have hjl : k < ll.length := by have := HN.out; omega
        rw [List.drop_eq_getElem_cons hjl]
        rw [List.getElem?_eq_getElem hjl] at hl
        rw [Option.some.inj hl]
      have HDROP := Lib.hid hdrop
      have hll := HLEN.out l (List.mem_of_getElem? hl)
      have HLR := Lib.hid hlr
      have HRD := Lib.hid hrd
      clear hcells hin hvs hv hl hdrop hlr hrd
      go_wp2_with fail
      refine (code_any Al A' l.length cl cs.length c' wr.heap.size l cs _ (HLR.out.more (by omega)) HRD.out (Nat.le_refl _) rfl rfl hll (by omega)).mono ?_
      rintro e w1 ⟨rfl, hb1⟩
      clear hll hmk
      simp only [costV]
      have hb2 : Below w.heap.size w w1 := hb.trans (hb1.mono hsz)
      by_cases hr : (Bd.code l cs).2.2 = 0
      · have hgo2 : Bd.funcsGo (ll.drop (k + 1)) ((k + 1 : Nat) : Int) (cs ++ [(Bd.code l cs).1]) = Bd.funcsGo ll 0 [] := by
          have h0 := HGO.out
          rw [HDROP.out, Bd.funcsGo, if_neg (by rw [hr]; simp)] at h0
          rw [← h0, show ((k + 1 : Nat) : Int) = (k : Int) + 1 by omega]
        have HGO2 := Lib.hid hgo2
        rw [hr]
        have hown1 := ownsRow_below HOWN.out hb1 (Nat.le_refl _)
        have HOWN1 := Lib.hid hown1
        generalize (Bd.code l cs).1 = cc at *
        obtain ⟨c0, c1, c2, c3⟩ := cc
        clear hr hgo2 HDROP HGO hown1 d0
        have z1 := hb1.size
        have hown2 : ((w1.alloc (.cells #[.int .i64 c0, .int .i64 c1, .int .i64 c2, .int .i64 c3] 28)).alloc (.cells #[.int .i64 c0, .int .i64 c1, .int .i64 c2, .int .i64 c3] 28)).ownsRow w.heap.size 28 4 (.slice A' cs.length c') cs.length (costCells cs) := ownsRow_below HOWN1.out (((Below.refl _ _).alloc (Nat.le_refl _) _).alloc (by simp) _) (Nat.le_refl _)
        have HOWN2 := Lib.hid hown2
        have hrs := Reads.one_new (w1.alloc (.cells #[.int .i64 c0, .int .i64 c1, .int .i64 c2, .int .i64 c3] 28)) 28 [.int .i64 c0, .int .i64 c1, .int .i64 c2, .int .i64 c3]
        simp only [World.size_alloc] at hrs
        have HRS := Lib.hid hrs
        clear hown2 hrs
        go_wp2_with (at_builtin; refine wpList_append_any _ rfl (.tmp 35) (.tmp 37) _ rfl w.heap.size 28 i0 _ 4 32 Try.underlying36 hi hz0 hz1 hz2 rfl (by omega) (.slice A' cs.length c') cs.length (costCells cs) rfl HOWN2.out (w1.heap.size + 1 + 1) (some ⟨w1.heap.size + 1, 0, none⟩) 1 1 [.int .i64 c0, .int .i64 c1, .int .i64 c2, .int .i64 c3] rfl HRS.out (by simp [Value.oneCell']) (by unfold maxLen; omega) (by omega) (by simp; omega) ?_; intro v' w2 hown3 hg3 hat3)
        refine ⟨⟨k + 1, cs ++ [⟨c0, c1, c2, c3⟩], by omega, by go_num, by simp; omega, ?_, HGO2.out, ?_⟩, by simp [intOf]; omega⟩
        · rw [List.length_append, costCells_app]; exact hown3
        · refine Below.grown (((hb2.alloc (by omega) _).alloc (by simp; omega) _)) hg3 (by simp; omega) ?_
          intro g hg
          rcases HOWN1.out.2 with ⟨h, _⟩ | ⟨g', _, _, h, hle, _⟩
          · rw [h] at hg; simp [Value.ownBlock] at hg
          · rw [h] at hg; simp [Value.ownBlock] at hg; omega
      · have hgo2 : Bd.funcsGo ll 0 [] = ([], (k : Int), (Bd.code l cs).2.2) := by
          rw [← HGO.out, HDROP.out, Bd.funcsGo, if_pos hr]
        have HGO2 := Lib.hid hgo2
        have hrb : ((Bd.code l cs).2.2 != 0) = true := by simpa using hr
        generalize (Bd.code l cs).2.2 = rr at *
        generalize (Bd.code l cs).2.1 = ra at *
        generalize (Bd.code l cs).1 = cc at *
        obtain ⟨c0, c1, c2, c3⟩ := cc
        clear hr hgo2 HDROP HGO d0
        go_wp2
        go_ret3
        refine ⟨none, 0, by rw [HGO2.out]; rfl, ?_, hb2.alloc (by have := hb1.size; omega) _⟩
        rw [HGO2.out]
        exact Reads.none_
    · have hkn : k = n := by omega
      have hgo2 : Bd.funcsGo ll 0 [] = (cs, 0, 0) := by
        have h0 := HGO.out
        rw [List.drop_eq_nil_of_le (by have := HN.out; omega), Bd.funcsGo] at h0
        exact h0.symm
      have HGO2 := Lib.hid hgo2
      have HKN := Lib.hid hkn
      have HRD := Lib.hid hrd
      clear hkn hgo2 HGO hrd hmk
      go_wp2
      go_ret3
      refine ⟨A', c', by rw [HGO2.out]; rfl, ?_, hb⟩
      rw [HGO2.out]
      exact HRD.out

theorem funcs_any (A : Option Addr) (c B : Nat) (ll : List (List (Int × Int))) (w : World) (hR : RowsAt w B A ll) (hB : B ≤ w.heap.size) (hlen : ∀ l ∈ ll, l.length ≤ 1000000000000) :
    Calls Try.prog 13 #[.slice A ll.length c] w (FuncsPost w (Bd.funcs ll)) := by
  by_cases h : ll.length > 20
  · have e : Bd.funcs ll = ([], 20, 2) := by unfold Bd.funcs; rw [if_pos h]
    rw [e]
    refine (funcs_many A ll.length c w h).mono ?_
    rintro e w' ⟨rfl, rfl⟩
    exact ⟨none, 0, rfl, Reads.none_, Below.refl _ _⟩
  · have e : Bd.funcs ll = Bd.funcsGo ll 0 [] := by unfold Bd.funcs; rw [if_neg h]
    rw [e]
    exact funcs_few A c B ll w hR hB (by omega) hlen
end Go.Proofs.Ytgklchhgpnoliaa

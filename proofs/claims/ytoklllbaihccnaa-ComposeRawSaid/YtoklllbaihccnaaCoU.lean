/- compose.learn of outlines; compose.Flat$2. Expanded from XCoU.src by expand.py. -/
import Derived.Test.YtoklllbaihccnaaCoT
set_option linter.unusedVariables false
set_option linter.unusedSimpArgs false
namespace Go.Proofs.Ytoklllbaihccnaa
open Go.RowKit Go.Shelf
attribute [local go_sem] Oper.semAt_some
theorem owns_cellsOf {w w' : World} {base size n : Nat} {t : TypeId} {u : Value} {xs : List Value} (h : w.ownsRow base t size u n xs) (k : ∀ (g : Nat) (o : Obj), w.heap[g]? = some o → o.isCells = true → w'.heap[g]? = some o) : w'.ownsRow base t size u n xs :=
  owns_keep h fun g e => by
    obtain ⟨_, _, cs, hb⟩ := owns_block h e
    rw [k g _ hb rfl]; exact hb.symm
theorem OlOwn.keepC {w w' : World} {base : Nat} {pv ev : Value} {o : Ol} (h : OlOwn w base pv ev o) (k : ∀ (g : Nat) (o : Obj), w.heap[g]? = some o → o.isCells = true → w'.heap[g]? = some o) : OlOwn w' base pv ev o := ⟨owns_cellsOf h.pts k, owns_cellsOf h.ends k⟩
theorem OlOwn.nil (w : World) (base : Nat) : OlOwn w base (.slice none 0 0) (.slice none 0 0) ([], []) := ⟨owns_nil _ _ _ _, owns_nil _ _ _ _⟩
/-- a map of outlines whose rows are the call's own -/
def OMap (w : World) (base b : Nat) (F : Int → Ol) : Prop := ∃ f, IMap w b f ∧ ∀ k, (f k = none ∧ F k = ([], [])) ∨ ∃ pv ev, f k = some (.agg #[pv, ev]) ∧ OlOwn w base pv ev (F k)
theorem OMap.lt {w : World} {base b : Nat} {F : Int → Ol} (h : OMap w base b F) : b < w.heap.size := by obtain ⟨f, h, _⟩ := h; exact h.lt
theorem OMap.new (w : World) (base : Nat) : OMap (w.alloc (.map #[] 0)) base w.heap.size (fun _ => ([], [])) := ⟨_, IMap.new w, fun _ => .inl ⟨rfl, rfl⟩⟩
theorem OMap.grow {w w' : World} {base b : Nat} {F : Int → Ol} (h : OMap w base b F) (hg : Grow w w') : OMap w' base b F := by
  obtain ⟨f, h, h2⟩ := h
  refine ⟨f, h.keep (hg.block _ h.lt fun x => x), fun k => ?_⟩
  rcases h2 k with e | ⟨pv, ev, e1, e2⟩
  · exact .inl e
  · exact .inr ⟨pv, ev, e1, e2.grow hg⟩
theorem OMap.look {w : World} {base b : Nat} {F : Int → Ol} (h : OMap w base b F) (k : Int) (hk : I64 k) :
    ∃ pv ev, OlOwn w base pv ev (F k) ∧ ∀ w', (∀ g, g = b → w'.heap[g]? = w.heap[g]?) → (Instr.lookup 89 (.map (some b)) (.int .i64 k) false).run Try.prog w' = .ok (.agg #[pv, ev]) w' := by
  obtain ⟨f, h, h2⟩ := h
  have hl := fun (w' : World) (e : ∀ g, g = b → w'.heap[g]? = w.heap[g]?) => (h.keep (w' := w') (e b rfl)).look (t := 89) Try.underlying89 (z := .agg #[.slice none 0 0, .slice none 0 0]) (by kernel_rfl) k hk
  rcases h2 k with ⟨e1, e2⟩ | ⟨pv, ev, e1, e2⟩
  · refine ⟨.slice none 0 0, .slice none 0 0, by rw [e2]; exact OlOwn.nil _ _, fun w' e => ?_⟩
    rw [hl w' e, e1]; rfl
  · refine ⟨pv, ev, e2, fun w' e => ?_⟩
    rw [hl w' e, e1]; rfl
theorem OMap.store {w : World} {base b : Nat} {F : Int → Ol} (h : OMap w base b F) (k : Int) (hk : I64 k) {pv ev : Value} {o : Ol} (ho : OlOwn w base pv ev o) :
    ∃ w', (Instr.mapUpdate 89 (.map (some b)) (.int .i64 k) (.agg #[pv, ev])).run Try.prog w = .ok () w' ∧ OMap w' base b (upd F k o) ∧ w.grownBy w' (some b) ∧ w'.heap.size = w.heap.size := by
  obtain ⟨f, h, h2⟩ := h
  obtain ⟨w', h3, h4, h5, h6⟩ := h.store (t := 89) Try.underlying89 k hk (.agg #[pv, ev])
  have hc : ∀ (g : Nat) (o : Obj), w.heap[g]? = some o → o.isCells = true → w'.heap[g]? = some o := fun g o e hc => by
    rw [h5.block g (Array.getElem?_eq_some_iff.1 e).1 (fun e2 => by
      injection e2 with e2
      obtain ⟨es, c, hm, _⟩ := h
      rw [e2, hm] at e; injection e with e; subst e; cases hc)]
    exact e
  refine ⟨w', h3, ⟨_, h4, fun k' => ?_⟩, h5, h6⟩
  by_cases e : k' = k
  · subst e; right; exact ⟨pv, ev, by simp, by rw [upd_same]; exact ho.keepC hc⟩
  · rw [upd_ne _ _ e]
    rcases h2 k' with ⟨e1, e2⟩ | ⟨pv', ev', e1, e2⟩
    · exact .inl ⟨by simpa [e] using e1, e2⟩
    · exact .inr ⟨pv', ev', by simpa [e] using e1, e2.keepC hc⟩
namespace Dp
def learnO (F : Int → (Int → Ol) → Ol) (os : List Int) : Int → Ol := os.foldl (fun k g => upd k g (F g k)) (fun _ => ([], []))
theorem learnO_snoc (F : Int → (Int → Ol) → Ol) (os : List Int) (g : Int) : learnO F (os ++ [g]) = upd (learnO F os) g (F g (learnO F os)) := by simp [learnO, List.foldl_append]
def ownO (gl : List Gl) (g : Int) : Ol := ((gl[g.toNat]?.map fun x => (x.pts.map (mvP 0 0), x.ends)).getD ([], []))
def flatOf (k : Int → Ol) (a : Ol) (l : List Prt) : Ol := l.foldl (fun a p => behindO a (k p.1) p) a
def flatF (gl : List Gl) (g : Int) (k : Int → Ol) : Ol := flatOf k (ownO gl g) (partsOf gl g.toNat)
theorem flatOf_snoc (k : Int → Ol) (a : Ol) (l : List Prt) (p : Prt) : flatOf k a (l ++ [p]) = behindO (flatOf k a l) (k p.1) p := by simp [flatOf, List.foldl_append]
theorem behindO_len (a o : Ol) (p : Prt) : (behindO a o p).1.length = a.1.length + o.1.length ∧ (behindO a o p).2.length = a.2.length + o.2.length := by simp [behindO]
theorem flatOf_le (k : Int → Ol) : ∀ (l : List Prt) (a : Ol), a.1.length ≤ (flatOf k a l).1.length ∧ a.2.length ≤ (flatOf k a l).2.length
  | [], a => ⟨Nat.le_refl _, Nat.le_refl _⟩
  | p :: l, a => by
    have h := flatOf_le k l (behindO a (k p.1) p)
    have h2 := behindO_len a (k p.1) p
    have e : flatOf k a (p :: l) = flatOf k (behindO a (k p.1) p) l := rfl
    rw [e]
    omega
theorem flatOf_app (k : Int → Ol) (a : Ol) (l l2 : List Prt) : flatOf k a (l ++ l2) = flatOf k (flatOf k a l) l2 := by simp [flatOf, List.foldl_append]
end Dp
set_option maxRecDepth 100000 in
set_option maxHeartbeats 2000000 in
theorem learnO_any (id : Nat) (caps : Array Value) (F : Int → (Int → Ol) → Ol) (os : List Int) (B : Nat) (A : Option Addr) (c : Nat) (w : World) (hr : Reads w B 1 A os.length (ints os)) (hB : B ≤ w.heap.size) (hc : os.length ≤ c) (hl : os.length ≤ 1000) (hi : ∀ x ∈ os, I64 x)
    (hof : ∀ (pre : List Int) (g : Int) (post : List Int), os = pre ++ g :: post → ∀ (W : World) (M : Nat), OMap W w.heap.size M (Dp.learnO F pre) → w.heap.size ≤ M → Below w.heap.size w W →
      Calls Try.prog id (#[.int .i64 g, .map (some M)] ++ caps) W fun e W' => ∃ pv ev, e = .returned (.agg #[pv, ev]) ∧ OlOwn W' W.heap.size pv ev (F g (Dp.learnO F pre)) ∧ Grow W W') (hid : ∀ args w, (callFunc id args).run Try.prog w = .ok (.enter id args) w) :
    Calls Try.prog 34 #[.slice A os.length c, .func (.func id) #[] caps] w fun e w' => ∃ M, e = .returned (.map (some M)) ∧ OMap w' w.heap.size M (Dp.learnO F os) ∧ w.heap.size ≤ M ∧ Below w.heap.size w w' := by
  have HR := Lib.hid hr
  have HI := Lib.hid hi
  have HOF := Lib.hid hof
  clear hr hi hof
  have hmm := @run_makeMap Try.prog
  go_enter Try.func34, Try.ntmps34
  go_wp2_with fail
  go_loopw [11] (fun i wr => ∃ j : Nat, j ≤ os.length ∧ i = .int .i64 j ∧ OMap wr w.heap.size w.heap.size (Dp.learnO F (os.take j)) ∧ Below w.heap.size w wr) (fun i _ => os.length - (intOf i).toNat)
  case atStart => exact ⟨0, by omega, rfl, OMap.new w _, (Below.refl _ _).alloc (Nat.le_refl _) _⟩
  case round =>
    obtain ⟨j, hj, rfl, hC, hBw⟩ := hrel
    by_cases hlt : j < os.length
    · obtain ⟨g, hg⟩ : ∃ g, os[j]? = some g := ⟨_, List.getElem?_eq_getElem hlt⟩
      obtain ⟨rb, ro, hA, hb, hcell⟩ := HR.out.at_ (by omega)
      subst hA
      have e0 := (hBw.cell (p := ⟨rb, ro + j, none⟩) (by show rb < _; omega)).trans (hcell j (.int .i64 g) (ints_at _ _ _ hg))
      have hgi := HI.out g (List.mem_of_getElem? hg)
      have hsp : os = os.take j ++ g :: os.drop (j + 1) := by
        have h1 : os[j]'hlt = g := by rw [List.getElem?_eq_getElem hlt] at hg; injection hg
        conv => lhs; rw [← List.take_append_drop j os, List.drop_eq_getElem_cons hlt, h1]
      have HC := Lib.hid hC
      have HBW := Lib.hid hBw
      have HCALL := Lib.hid (HOF.out _ g _ hsp wr w.heap.size hC (Nat.le_refl _) hBw)
      have HSP := Lib.hid hsp
      have lbs : rb < wr.heap.size := by have := hBw.size; omega
      have hbs := hBw.size
      clear hC hBw hsp hcell hmm
      go_wp2_with fail
      refine HCALL.out.mono ?_
      rintro e w1 ⟨pv, ev, rfl, ho1, hg1⟩
      have hC1 : OMap w1 w.heap.size w.heap.size (Dp.learnO F (os.take j)) := HC.out.grow hg1
      obtain ⟨w2, m1, m2, m3, m4⟩ := hC1.store g hgi (ho1.mono hbs)
      have HM2 := Lib.hid m2
      have hB2 : Below w.heap.size w w2 := (HBW.out.trans (hg1.below hbs)).grown m3 (by have := hg1.size; omega) (fun b e => by injection e with e; omega)
      have HB2 := Lib.hid hB2
      clear m2 m3 m4 hC1 hB2 hg1 ho1
      go_wp2_with fail
      go_roundw
      case rel =>
        refine ⟨j + 1, by omega, by go_num, ?_, HB2.out⟩
        have e1 : os.take (j + 1) = os.take j ++ [g] := by rw [List.take_add_one, hg]; rfl
        rw [e1, Dp.learnO_snoc]
        exact HM2.out
      case measure => simp [intOf]; omega
    · have hje : j = os.length := by omega
      have HC := Lib.hid hC
      have HBW := Lib.hid hBw
      clear hC hBw hmm
      go_wp2_with fail
      go_ret
      subst hje
      have h := HC.out
      rw [List.take_length] at h
      exact ⟨_, rfl, h, Nat.le_refl _, HBW.out⟩
end Go.Proofs.Ytoklllbaihccnaa

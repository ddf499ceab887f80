/- Rows of one's own in regions that draw their order; append onto a full row; a cell of an element is written; what stays. -/
import Derived.Test.YtgklchhgpnoliaaRep
import Derived.Test.YtgklchhgpnoliaaBoundQ
namespace Go.Proofs.Ytgklchhgpnoliaa
open Go.RowKit

/-- the same, at a step of a region that draws its order -/
theorem step_push {P : Program} (w : World) {ops : Array Oper} {o : Oper} {a : Act} {K : Act → World → Prop} {Q : Exit → Act → World → Prop} {E : Prop} (hgd : o.guard = none) (s x : Operand) (t : TypeId)
    (ho : o.op = .call { callee := .builtin .append, args := #[s, x], argTypes := #[t, t] }) {N0 : Nat} {α : Type} (R : Repr N0 α)
    (base : Nat) (e : TypeId) (i : TypeInfo) (z : Value) (bytes : Nat) (ht : P.underlying t = some (.slice e)) (hi : P.info? e = some i) (hz : i.zero = some z)
    (hsize : i.size = R.size) (hby : i.bytes = bytes) (hzs : z.cells.size = R.size) (hsz : 0 < R.size) (hno : e ∉ R.tys) (hN : N0 ≤ base)
    (v : Value) (l : List α) (hs : a.eval s = v) (hown : OwnAt R e base w v l)
    (g : Nat) (cs : List Value) (y : α) (hx : a.eval x = .slice (some ⟨g, 0, none⟩) 1 1) (hblk : Blk w g e cs.toArray) (hy : R.rel w w.heap.size y cs)
    (h63 : l.length + 1 ≤ maxLen) (hbytes : (l.length + 1) * bytes ≤ 140737488355328) (hbase : base ≤ w.heap.size)
    (h : ∀ A' c' w', OwnAt R e base w' (.slice A' (l.length + 1) c') (l ++ [y]) → w.grownBy w' v.ownBlock → K (a.put o.dst (.slice A' (l.length + 1) c')) w') :
    if Region.wanted o (yielded ops a.tmps) = true then Oper.wp P o a w K Q else E := by
  have hw : Region.wanted o (yielded ops a.tmps) = true := by simp [Region.wanted, hgd]
  rw [if_pos hw]
  obtain ⟨css, hw', h1, h2⟩ := hown
  have hr : Reads w w.heap.size R.size (some ⟨g, 0, none⟩) 1 cs := ⟨by rw [R.len hy]; omega, fun _ => ⟨_, _, rfl, hblk.lt, fun j u hu => by rw [Nat.zero_add, hblk.cell]; simpa using hu⟩⟩
  exact wp_append_any w s x t ho base e i z R.size bytes ht hi hz hsize hby hzs hsz v l.length css.flatten hs hw' w.heap.size _ 1 1 cs hx hr (R.one hy) h63 hbytes hbase
    fun v' w' h3 h4 _ => by
      have h6 := OwnAt.push hw' h1 h2 hno hN hy h3 h4
      obtain ⟨A', c', e', _⟩ := h6.form
      rw [List.length_append, List.length_singleton] at e'
      subst e'
      exact h A' c' w' h6 h4

/-- what is read stays, where block M alone changes, which is of another type -/
theorem Repr.fr {N0 : Nat} {α : Type} (R : Repr N0 α) {w w' : World} {B : Nat} {a : α} {cs : List Value} (h : R.rel w B a cs) {M : Nat} {tM : TypeId} {xM : Array Value} (hf : Fr (fun k => k = M) w w') (hM : Blk w M tM xM) (hne : tM ∉ R.tys) (hN : N0 ≤ M) : R.rel w' B a cs :=
  R.keep h fun g t xs fz _ ht hh => by
    have hlt : g < w.heap.size := (Array.getElem?_eq_some_iff.1 hh).1
    rw [hf.block g hlt]
    · exact hh
    · rintro rfl
      rcases ht with ht | ht
      · omega
      · unfold Blk at hM
        rw [hM] at hh
        injection hh with hh
        injection hh with _ h2
        exact hne (h2 ▸ ht)
theorem OwnAt.fr {N0 : Nat} {α : Type} {R : Repr N0 α} {t : TypeId} {base : Nat} {w w' : World} {v : Value} {l : List α} (h : OwnAt R t base w v l) {M : Nat} {tM : TypeId} {xM : Array Value} (hf : Fr (fun k => k = M) w w') (hM : Blk w M tM xM) (hne : tM ∉ t :: R.tys) (hN : N0 ≤ M) : OwnAt R t base w' v l :=
  h.keep hf.size fun g t xs fz ht hh => by
    have hlt : g < w.heap.size := (Array.getElem?_eq_some_iff.1 hh).1
    rw [hf.block g hlt]
    · exact hh
    · rintro rfl
      rcases ht with ht | ht
      · omega
      · unfold Blk at hM
        rw [hM] at hh
        injection hh with hh
        injection hh with _ h2
        exact hne (h2 ▸ ht)
theorem Repr.setCell {N0 : Nat} {α : Type} (R : Repr N0 α) {w : World} {B : Nat} {a : α} {cs : List Value} (h : R.rel w B a cs) {g0 : Nat} {t0 : TypeId} {xs0 : Array Value} (hb : Blk w g0 t0 xs0) (hne : t0 ∉ R.tys) (hN : N0 ≤ g0) (i : Nat) (u : Value) : R.rel (w.setCell ⟨g0, i, none⟩ u) B a cs :=
  R.keep h fun g t xs fz _ ht hh => by
    rcases ht with ht | ht
    · rw [Below.heap_setCell _ _ _ _ (by simp; omega)]; exact hh
    · exact set_keeps hb i u g t xs fz (fun e => hne (e ▸ ht)) hh
theorem size_setCell (w : World) (p : Addr) (u : Value) : (w.setCell p u).heap.size = w.heap.size := by simp [World.setCell]

/-- a row that is read, as rows of cells -/
theorem RowAt.flat {N0 : Nat} {α : Type} {R : Repr N0 α} {t : TypeId} {w : World} {B : Nat} {A : Option Addr} {l : List α} (h : RowAt R t w B A l) :
    ∃ css : List (List Value), css.length = l.length ∧ (∀ (i : Nat) a cs, l[i]? = some a → css[i]? = some cs → R.rel w B a cs) ∧ Reads w B R.size A l.length css.flatten := by
  obtain ⟨css, h1, h2, h3⟩ := h
  have hlen : ∀ cs ∈ css, cs.length = R.size := by
    intro cs hcs
    obtain ⟨i, hi⟩ := List.getElem?_of_mem hcs
    have hlt : i < css.length := (List.getElem?_eq_some_iff.1 hi).1
    exact R.len (h2 i (l[i]'(by omega)) cs (List.getElem?_eq_getElem (by omega)) hi)
  have key : ∀ (m : List (List Value)), (∀ cs ∈ m, cs.length = R.size) → ∀ (j : Nat) u, m.flatten[j]? = some u → ∃ (i k : Nat) (cs : List Value), m[i]? = some cs ∧ cs[k]? = some u ∧ j = i * R.size + k := by
    intro m
    induction m with
    | nil => intro _ j u hu; simp at hu
    | cons x r ih =>
      intro hm j u hu
      have hx := hm x List.mem_cons_self
      rw [List.flatten_cons] at hu
      rcases Nat.lt_or_ge j R.size with hj | hj
      · rw [List.getElem?_append_left (by omega)] at hu
        exact ⟨0, j, x, rfl, hu, by omega⟩
      · rw [List.getElem?_append_right (by omega), hx] at hu
        obtain ⟨i, k, cs, ha, hk, hjk⟩ := ih (fun cs hcs => hm cs (List.mem_cons_of_mem _ hcs)) _ _ hu
        exact ⟨i + 1, k, cs, ha, hk, by rw [Nat.succ_mul]; omega⟩
  refine ⟨css, h1, h2, by rw [(flatten_get css hlen).1, h1], fun hn => ?_⟩
  obtain ⟨b, off, xs, t', fz, rfl, hb, _, hh, hc⟩ := h3 hn
  refine ⟨b, off, rfl, hb, fun j u hu => ?_⟩
  obtain ⟨i, k, cs, ha, hk, rfl⟩ := key css hlen j u hu
  rw [cell_of_row w b _ xs t' fz hh, ← Nat.add_assoc]
  exact hc i k cs u ha hk
theorem OwnAt.pushAll {N0 : Nat} {α : Type} {R : Repr N0 α} {t : TypeId} {base : Nat} {w w' : World} {v v' : Value} {l l2 : List α} {css css2 : List (List Value)} (ho : w.ownsRow base t R.size v l.length css.flatten) (h1 : css.length = l.length) (h2 : ∀ (i : Nat) a cs, l[i]? = some a → css[i]? = some cs → R.rel w w.heap.size a cs)
    (k1 : css2.length = l2.length) (k2 : ∀ (i : Nat) a cs, l2[i]? = some a → css2[i]? = some cs → R.rel w w.heap.size a cs) (hno : t ∉ R.tys) (hN : N0 ≤ base)
    (hown : w'.ownsRow base t R.size v' (l.length + l2.length) (css.flatten ++ css2.flatten)) (hg : w.grownBy w' v.ownBlock) : OwnAt R t base w' v' (l ++ l2) := by
  have hb := fun g => OwnAt.block (g := g) ⟨css, ho, h1, h2⟩
  have hr : ∀ (g : Nat) (t' : TypeId) (xs : Array Value) (fz : Nat × Nat), v.ownBlock = some g → w.heap[g]? = some (.cells xs t' fz) → N0 ≤ g ∧ t' ∉ R.tys := by
    intro g t' xs fz e hh
    obtain ⟨hle, _, ys, hy⟩ := hb g e
    rw [hy] at hh
    injection hh with hh
    injection hh with _ ht
    exact ⟨by omega, ht ▸ hno⟩
  refine ⟨css ++ css2, by simpa using hown, by simp [h1, k1], fun i a' cs' ha' hc' => ?_⟩
  rcases Nat.lt_or_ge i l.length with hi | hi
  · rw [List.getElem?_append_left hi] at ha'
    rw [List.getElem?_append_left (by omega)] at hc'
    exact R.more (R.grown (h2 i a' cs' ha' hc') hg hr) hg.size
  · rw [List.getElem?_append_right hi] at ha'
    rw [List.getElem?_append_right (by omega), h1] at hc'
    exact R.more (R.grown (k2 _ a' cs' ha' hc') hg hr) hg.size
theorem RowAt.one {N0 : Nat} {α : Type} {R : Repr N0 α} {w : World} {B : Nat} {l : List α} {css : List (List Value)} (h1 : css.length = l.length) (h2 : ∀ (i : Nat) a cs, l[i]? = some a → css[i]? = some cs → R.rel w B a cs) : ∀ u ∈ css.flatten, u.oneCell' = true := by
  intro u hu
  obtain ⟨cs, hcs, hu⟩ := List.mem_flatten.1 hu
  obtain ⟨i, hi⟩ := List.getElem?_of_mem hcs
  have hlt : i < css.length := (List.getElem?_eq_some_iff.1 hi).1
  exact R.one (h2 i (l[i]'(by omega)) cs (List.getElem?_eq_getElem (by omega)) hi) u hu
/-- append of a whole row that is read -/
theorem wpList_pushAll {P : Program} (w : World) {ops : Array Oper} {rest : List Oper} {o : Oper} {a : Act} {Q : Exit → Act → World → Prop} (hgd : o.guard = none) (s x : Operand) (t : TypeId)
    (ho : o.op = .call { callee := .builtin .append, args := #[s, x], argTypes := #[t, t] }) {N0 : Nat} {α : Type} (R : Repr N0 α)
    (base : Nat) (e : TypeId) (i : TypeInfo) (z : Value) (bytes : Nat) (ht : P.underlying t = some (.slice e)) (hi : P.info? e = some i) (hz : i.zero = some z)
    (hsize : i.size = R.size) (hby : i.bytes = bytes) (hzs : z.cells.size = R.size) (hsz : 0 < R.size) (hno : e ∉ R.tys) (hN : N0 ≤ base)
    (v : Value) (l : List α) (hs : a.eval s = v) (hown : OwnAt R e base w v l)
    (A : Option Addr) (m c : Nat) (l2 : List α) (hm : l2.length = m) (hx : a.eval x = .slice A m c) (t2 : TypeId) (hrow : RowAt R t2 w w.heap.size A l2)
    (h63 : l.length + m ≤ maxLen) (hbytes : (l.length + m) * bytes ≤ 140737488355328) (hbase : base ≤ w.heap.size)
    (h : ∀ A' c' w', OwnAt R e base w' (.slice A' (l.length + m) c') (l ++ l2) → w.grownBy w' v.ownBlock → wpList P ops Q rest (a.put o.dst (.slice A' (l.length + m) c')) w') : wpList P ops Q (o :: rest) a w := by
  subst hm
  obtain ⟨css, hw, h1, h2⟩ := hown
  obtain ⟨css2, k1, k2, k3⟩ := hrow.flat
  exact wpList_append_any w hgd s x t ho base e i z R.size bytes ht hi hz hsize hby hzs hsz v l.length css.flatten hs hw w.heap.size A l2.length c css2.flatten hx k3 (RowAt.one k1 k2) h63 hbytes hbase
    fun v' w' h3 h4 _ => by
      have h6 := OwnAt.pushAll hw h1 h2 k1 k2 hno hN h3 h4
      obtain ⟨A', c', e', _⟩ := h6.form
      rw [List.length_append] at e'
      subst e'
      exact h A' c' w' h6 h4
end Go.Proofs.Ytgklchhgpnoliaa
namespace Go.Proofs.Ytgklchhgpnoliaa
open Go.RowKit

section
variable {P : Program} (w : World)
theorem run_append_zero (t ty e : TypeId) (i : TypeInfo) (ht : P.underlying t = some (.slice e)) (hi : P.info? e = some i) (ad : Addr) (n c0 : Nat) (hn : n ≤ c0) (A : Option Addr) (c : Nat) :
    (Builtin.append_ #[t, t] ty #[.slice (some ad) n c0, .slice A 0 c]).run P w = .ok (.slice (some ad) n c0) w := by
  cases A with
  | none => simp [Builtin.append_, run_underlying ht, sizeOf, typeInfo, hi, Builtin.lenOf, Builtin.firstCells, hn, storeCells]
  | some a => simp [Builtin.append_, run_underlying ht, sizeOf, typeInfo, hi, Builtin.lenOf, Builtin.firstCells, hn, storeCells, loadCells, loadCellsFrom]

theorem run_push_full {N0 : Nat} {α : Type} (R : Repr N0 α) (t ty e : TypeId) (i : TypeInfo) (z : Value) (bytes : Nat) (ht : P.underlying t = some (.slice e)) (hi : P.info? e = some i) (hz : i.zero = some z)
    (hsize : i.size = R.size) (hby : i.bytes = bytes) (_hzs : z.cells.size = R.size)
    (A : Option Addr) (n : Nat) (l : List α) (hl : l.length = n) (h0 : 0 < n) (hrow : RowAt R e w w.heap.size A l)
    (A2 : Option Addr) (m c2 : Nat) (l2 : List α) (hl2 : l2.length = m) (t2 : TypeId) (hrow2 : RowAt R t2 w w.heap.size A2 l2) (h63 : n + m ≤ maxLen) (hbytes : (n + m) * bytes ≤ 140737488355328) :
    ∃ A' c' w', (Builtin.append_ #[t, t] ty #[.slice A n n, .slice A2 m c2]).run P w = .ok (.slice A' (n + m) c') w' ∧ n + m ≤ c' ∧ c' ≤ maxLen ∧ RowAt R e w' w'.heap.size A' (l ++ l2) ∧ Below w.heap.size w w' := by
  subst hl hl2
  obtain ⟨css, h1, h2, h3⟩ := hrow.flat
  obtain ⟨css2, k1, k2, k3⟩ := hrow2.flat
  obtain ⟨b, off, rfl, hb, hcell⟩ := h3.2 h0
  have hadd : ∀ (b' off' j : Nat), (⟨b', off', none⟩ : Addr).add j = ⟨b', off' + j, none⟩ := fun b' off' j => by unfold Addr.add; split <;> simp_all
  rcases Nat.eq_zero_or_pos l2.length with hz2 | hz2
  · have hl2 : l2 = [] := List.eq_nil_of_length_eq_zero hz2
    subst hl2
    refine ⟨_, l.length, w, run_append_zero w t ty e i ht hi _ _ _ (Nat.le_refl _) A2 c2, by simp, by simp at h63; omega, by simpa using hrow, Below.refl _ _⟩
  · obtain ⟨b2, off2, rfl, hb2, hcell2⟩ := k3.2 hz2
    have hr := run_append_grow (P := P) w t ty e i z ht hi hz ⟨b, off, none⟩ l.length l.length css.flatten (by rw [hsize]; exact h3.1) (fun j u hu => by rw [hadd]; exact hcell j u hu) ⟨b2, off2, none⟩ l2.length c2 css2.flatten (by rw [hsize]; exact k3.1) (fun j u hu => by rw [hadd]; exact hcell2 j u hu) (by omega) (by unfold maxLen at h63; omega) (by rw [hby]; exact growslice_fits (by omega) hbytes)
    refine ⟨_, _, _, hr, grownCap_ge _ _ _ _, grownCap_le_maxLen _ _ _ _ h63, ?_, ((Below.refl w.heap.size w).drew).alloc (Nat.le_refl _) _⟩
    have hbl : Below w.heap.size w (w.drew.alloc (.cells (css.flatten.toArray ++ css2.flatten.toArray ++ Builtin.zeroCells z.cells (grownCap w (l.length + l2.length) l.length e - (l.length + l2.length))) e)) := ((Below.refl w.heap.size w).drew).alloc (Nat.le_refl _) _
    have hlenA : ∀ cs ∈ css ++ css2, cs.length = R.size := by
      intro cs hcs
      rcases List.mem_append.1 hcs with hc | hc
      · obtain ⟨j, hj⟩ := List.getElem?_of_mem hc
        have hlt : j < css.length := (List.getElem?_eq_some_iff.1 hj).1
        exact R.len (h2 j (l[j]'(by omega)) cs (List.getElem?_eq_getElem (by omega)) hj)
      · obtain ⟨j, hj⟩ := List.getElem?_of_mem hc
        have hlt : j < css2.length := (List.getElem?_eq_some_iff.1 hj).1
        exact R.len (k2 j (l2[j]'(by omega)) cs (List.getElem?_eq_getElem (by omega)) hj)
    obtain ⟨f1, f2⟩ := flatten_get _ hlenA
    refine ⟨css ++ css2, by simp [h1, k1], ?_, fun _ => ⟨w.heap.size, 0, _, e, (0, 0), rfl, by simp, .inr rfl, heap_alloc_new w.drew _, ?_⟩⟩
    · intro j y cs hy hc
      rcases Nat.lt_or_ge j l.length with hj | hj
      · rw [List.getElem?_append_left hj] at hy
        rw [List.getElem?_append_left (by omega)] at hc
        exact R.more (R.below (h2 j y cs hy hc) hbl (Nat.le_refl _)) (by simp)
      · rw [List.getElem?_append_right hj] at hy
        rw [List.getElem?_append_right (by omega), h1] at hc
        exact R.more (R.below (k2 _ y cs hy hc) hbl (Nat.le_refl _)) (by simp)
    · intro a' j cs u ha hj
      have := f2 a' j cs u ha hj
      rw [List.flatten_append] at this
      have hlt := (List.getElem?_eq_some_iff.1 this).1
      rw [Nat.zero_add, Array.getElem?_append_left (by simpa using hlt)]
      simpa using this

theorem wp_push_full {o : Oper} {a : Act} {K : Act → World → Prop} {Q : Exit → Act → World → Prop} (s x : Operand) (t : TypeId)
    (ho : o.op = .call { callee := .builtin .append, args := #[s, x], argTypes := #[t, t] }) {N0 : Nat} {α : Type} (R : Repr N0 α) (e : TypeId) (i : TypeInfo) (z : Value) (bytes : Nat) (ht : P.underlying t = some (.slice e)) (hi : P.info? e = some i) (hz : i.zero = some z)
    (hsize : i.size = R.size) (hby : i.bytes = bytes) (hzs : z.cells.size = R.size)
    (A : Option Addr) (n : Nat) (l : List α) (hl : l.length = n) (h0 : 0 < n) (hs : a.eval s = .slice A n n) (hrow : RowAt R e w w.heap.size A l)
    (A2 : Option Addr) (m c2 : Nat) (l2 : List α) (hl2 : l2.length = m) (hx : a.eval x = .slice A2 m c2) (t2 : TypeId) (hrow2 : RowAt R t2 w w.heap.size A2 l2) (h63 : n + m ≤ maxLen) (hbytes : (n + m) * bytes ≤ 140737488355328)
    (h : ∀ A' c' w', n + m ≤ c' → c' ≤ maxLen → RowAt R e w' w'.heap.size A' (l ++ l2) → Below w.heap.size w w' → K (a.put o.dst (.slice A' (n + m) c')) w') : o.wp P a w K Q := by
  obtain ⟨A', c', w', hrun, g1, g2, g3, g4⟩ := run_push_full (P := P) w R t o.type e i z bytes ht hi hz hsize hby hzs A n l hl h0 hrow A2 m c2 l2 hl2 t2 hrow2 h63 hbytes
  unfold Oper.wp execOp
  simp only [ho, resolve, invoke, builtin, Sem.run_bind, Sem.run_pure, Result.andThen_ok, List.map_toArray, List.map_cons, List.map_nil, hs, hx, hrun]
  exact h A' c' w' g1 g2 g3 g4
end
end Go.Proofs.Ytgklchhgpnoliaa
namespace Go.Proofs.Ytgklchhgpnoliaa
open Go.RowKit

theorem flatten_set {n : Nat} (u : Value) : ∀ (css : List (List Value)), (∀ cs ∈ css, cs.length = n) → ∀ (i j : Nat) (cs : List Value), css[i]? = some cs → j < n → css.flatten.set (i * n + j) u = (css.set i (cs.set j u)).flatten
  | [], _, i, j, cs, h, _ => by simp at h
  | x :: r, h, i, j, cs, hi, hj => by
    have hx := h x List.mem_cons_self
    cases i with
    | zero =>
      simp only [List.getElem?_cons_zero, Option.some.injEq] at hi
      subst hi
      simp only [List.flatten_cons, List.set_cons_zero, Nat.zero_mul, Nat.zero_add]
      rw [List.set_append_left _ _ (by omega)]
    | succ i =>
      simp only [List.getElem?_cons_succ] at hi
      have ih := flatten_set u r (fun cs hcs => h cs (List.mem_cons_of_mem _ hcs)) i j cs hi hj
      simp only [List.flatten_cons, List.set_cons_succ]
      rw [List.set_append_right _ _ (by rw [Nat.succ_mul]; omega), show (i + 1) * n + j - x.length = i * n + j by rw [Nat.succ_mul]; omega, ih]

section
variable {N0 : Nat} {α : Type} {R : Repr N0 α} {t : TypeId} {base : Nat} {w : World} {v : Value} {l : List α}
/-- an element of a row of one's own: where its cells lie -/
theorem OwnAt.elem (h : OwnAt R t base w v l) {i : Nat} {a : α} (ha : l[i]? = some a) :
    ∃ g cap xs cs, v = .slice (some ⟨g, 0, none⟩) l.length cap ∧ base ≤ g ∧ g < w.heap.size ∧ Blk w g t xs ∧ R.rel w w.heap.size a cs ∧ (∀ (j : Nat) u, cs[j]? = some u → w.cell? ⟨g, i * R.size + j, none⟩ = some u) ∧ (∀ j, w.frozen? ⟨g, j, none⟩ = false) := by
  obtain ⟨css, ho, h1, h2⟩ := h
  have hil : i < l.length := (List.getElem?_eq_some_iff.1 ha).1
  have hlen := OwnAt.cssLen h1 h2
  obtain ⟨f1, f2⟩ := flatten_get css hlen
  have hcs : css[i]? = some (css[i]'(by omega)) := List.getElem?_eq_getElem (by omega)
  rcases ho.2 with ⟨rfl, h0⟩ | ⟨g, cap, cur, rfl, hg, hh, hcap1, hcap2, _, htk⟩
  · omega
  · have hb : Blk w g t cur := hh
    refine ⟨g, cap, cur, _, rfl, hg, hb.lt, hb, h2 i a _ ha hcs, fun j u hu => ?_, hb.frozen⟩
    have := f2 i j _ u hcs hu
    rw [← htk, List.getElem?_take] at this
    split at this
    · rw [hb.cell]; simpa using this
    · cases this
/-- one of its cells is written -/
theorem OwnAt.upd (h : OwnAt R t base w v l) {i j : Nat} {a a' : α} (ha : l[i]? = some a) (hj : j < R.size) (u : Value) (hno : t ∉ R.tys) (hN : N0 ≤ base) (hr : ∀ cs, R.rel w w.heap.size a cs → R.rel w w.heap.size a' (cs.set j u)) {g n cap : Nat} (hv : v = .slice (some ⟨g, 0, none⟩) n cap) :
    OwnAt R t base (w.setCell ⟨g, i * R.size + j, none⟩ u) v (l.set i a') := by
  obtain ⟨css, ho, h1, h2⟩ := h
  have hil : i < l.length := (List.getElem?_eq_some_iff.1 ha).1
  have hlen := OwnAt.cssLen h1 h2
  have hcs : css[i]? = some (css[i]'(by omega)) := List.getElem?_eq_getElem (by omega)
  have hlt : i * R.size + j < l.length * R.size := by
    have : (i + 1) * R.size ≤ l.length * R.size := Nat.mul_le_mul_right _ (by omega)
    rw [Nat.succ_mul] at this
    omega
  have hgb : ∃ cur, Blk w g t cur ∧ base ≤ g := by
    rcases ho.2 with ⟨h', _⟩ | ⟨g', cap', cur, h', hg, hh, _⟩
    · rw [hv] at h'; cases h'
    · rw [hv] at h'; injection h' with h'; injection h' with h'; injection h' with h'; subst h'; exact ⟨cur, hh, hg⟩
  obtain ⟨cur, hb, hge⟩ := hgb
  obtain ⟨g', cap', hv', _, _, _, _, hset⟩ := own_set ho hlt
  have hgg : g = g' := by rw [hv] at hv'; injection hv' with h'; injection h' with h'; injection h' with h'
  subst hgg
  refine ⟨css.set i ((css[i]'(by omega)).set j u), ?_, by simp [h1], fun k b cs hb' hc => ?_⟩
  · rw [← flatten_set u css hlen i j _ hcs hj]
    simpa using hset u
  · rw [size_setCell]
    refine R.setCell ?_ hb hno (by omega) _ _
    by_cases hik : i = k
    · subst hik
      rw [List.getElem?_set_self (by omega)] at hb' hc
      injection hb' with hb'
      injection hc with hc
      subst hb' hc
      exact hr _ (h2 i a _ ha hcs)
    · rw [List.getElem?_set_ne hik] at hb' hc
      exact h2 k b cs hb' hc
/-- the block of a row of one's own is of its type -/
theorem OwnAt.blk (h : OwnAt R t base w v l) {g n cap : Nat} (hv : v = .slice (some ⟨g, 0, none⟩) n cap) : base ≤ g ∧ ∃ xs, Blk w g t xs := by
  obtain ⟨css, ho, _, _⟩ := h
  rcases ho.2 with ⟨h', _⟩ | ⟨g', cap', cur, h', hg, hh, _⟩
  · rw [hv] at h'; cases h'
  · rw [hv] at h'; injection h' with h'; injection h' with h'; injection h' with h'; subst h'; exact ⟨hg, cur, hh⟩
/-- a cell of another block is written -/
theorem OwnAt.far (h : OwnAt R t base w v l) {k : Nat} {t0 : TypeId} {xs : Array Value} (hb : Blk w k t0 xs) (hd : ∀ k', v.ownBlock = some k' → k' ≠ k) (hne : t0 ∉ R.tys) (hN : N0 ≤ k) (i : Nat) (u : Value) : OwnAt R t base (w.setCell ⟨k, i, none⟩ u) v l := by
  obtain ⟨css, ho, h1, h2⟩ := h
  refine ⟨css, ⟨ho.1, ?_⟩, h1, fun j a cs ha hc => ?_⟩
  · rcases ho.2 with h | ⟨g, cap, cur, hv, hle, hh, hr⟩
    · exact .inl h
    · exact .inr ⟨g, cap, cur, hv, hle, by rw [Below.heap_setCell _ _ _ _ (by have := hd g (by rw [hv]; rfl); simpa using this)]; exact hh, hr⟩
  · rw [size_setCell]; exact R.setCell (h2 j a cs ha hc) hb hne hN _ _
theorem OwnAt.rowTy (h : OwnAt R t base w v l) (hN : N0 ≤ base) (g : Nat) (t' : TypeId) (xs : Array Value) (fz : Nat × Nat) (e : v.ownBlock = some g) (hh : w.heap[g]? = some (.cells xs t' fz)) : N0 ≤ g ∧ t' = t := by
  obtain ⟨h1, _, ys, hy⟩ := h.block e
  rw [hy] at hh
  injection hh with hh
  injection hh with _ ht
  exact ⟨by omega, ht.symm⟩
theorem OwnAt.apart {β : Type} {S : Repr N0 β} {w' : World} {base2 : Nat} {t2 : TypeId} {v2 : Value} {l2 : List β} (h : OwnAt S t2 base2 w v2 l2) (k : OwnAt R t base w v l) (hg : w.grownBy w' v.ownBlock) (hN : N0 ≤ base) (hne : t ∉ t2 :: S.tys) : OwnAt S t2 base2 w' v2 l2 :=
  h.grown hg fun g t' xs fz e hh => by obtain ⟨h1, h2⟩ := k.rowTy hN g t' xs fz e hh; exact ⟨h1, h2 ▸ hne⟩
end
/-- what is read stays, where a row of another type grows -/
theorem Repr.apart {N0 : Nat} {β : Type} (S : Repr N0 β) {α : Type} {R : Repr N0 α} {t : TypeId} {base : Nat} {w : World} {v : Value} {l : List α} {w' : World} {B : Nat} {b : β} {cs : List Value} (h : S.rel w B b cs) (k : OwnAt R t base w v l) (hg : w.grownBy w' v.ownBlock) (hN : N0 ≤ base) (hne : t ∉ S.tys) : S.rel w' B b cs :=
  S.grown h hg fun g t' xs fz e hh => by obtain ⟨h1, h2⟩ := k.rowTy hN g t' xs fz e hh; exact ⟨h1, h2 ▸ hne⟩
end Go.Proofs.Ytgklchhgpnoliaa

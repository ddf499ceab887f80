/- Small facts on instructions as a type, and on rows of a call's own. · How instructions, code and costs lie in memory. · Rows of one's own in regions that draw their order; append onto a full row; a cell of an element is written; what stays. · fleuronref07's maker: its next number. · fleuronref07's maker: an outline. -/
import Derived.Test.YtnalbkjbidaojaaProg
import Derived.Test.YtnalbkjbidaojaaMemo
import Derived.Test.YtnalbkjbidaojaaBdP
import Derived.RangeFuncNested
import Derived.RangeFuncBound
import Derived.RangeFuncCalls
import Derived.RangeFuncLeaves
import Derived.OrdersHeld
import Derived.Deep.RegionHeld
import Derived.OwnWalkIn
import Derived.TacticsInMore
import Derived.Laws.MakeOwn
import Derived.Deep.Light
import Derived.RegionTactic
import Derived.StillTailTactics
import Derived.Deep.RegionHeld3
import Derived.Deep.RegionWith
import Derived.LoopNIn
import Derived.LoopIn
import Derived.BigRegion
import Derived.BigQuiet
import Derived.Deep.QuietTactic
import Derived.Deep.RegionLaw
import Derived.Deep.DeepCutAuto
namespace Go.Proofs.Ytnalbkjbidaojaa
open Go.RowKit

theorem ins_info : (Try.prog.info? 68).map (fun i => (i.zero, i.size, i.bytes)) = some (some (.agg #[.int .i64 0, .int .i64 0]), 2, 16) := by kernel_rfl
theorem own_set {w : World} {base : Nat} {e : TypeId} {size n j : Nat} {v : Value} {xs : List Value} (h : w.ownsRow base e size v n xs) (hj : j < n * size) :
    ∃ g cap, v = .slice (some ⟨g, 0, none⟩) n cap ∧ base ≤ g ∧ g < w.heap.size ∧ w.cell? ⟨g, j, none⟩ = xs[j]? ∧ w.frozen? ⟨g, j, none⟩ = false ∧ ∀ u, (w.setCell ⟨g, j, none⟩ u).ownsRow base e size v n (xs.set j u) := by
  obtain ⟨h0, h | ⟨g, cap, cur, rfl, hg, hh, hc1, hc2, hc3, hc4⟩⟩ := h
  · obtain ⟨_, rfl⟩ := h; simp at hj
  · have hb : Blk w g e cur := hh
    refine ⟨g, cap, rfl, hg, hb.lt, ?_, hb.frozen j, fun u => ⟨by simpa using h0, .inr ⟨g, cap, _, rfl, hg, hb.set_ j u, hc1, hc2, by simpa using hc3, ?_⟩⟩⟩
    · rw [hb.cell, ← hc4, List.getElem?_take, if_pos hj]; simp
    · rw [Array.toList_setIfInBounds, List.take_set, hc4]
end Go.Proofs.Ytnalbkjbidaojaa
namespace Go.Proofs.Ytnalbkjbidaojaa
open Go.RowKit

def insR (N0 : Nat) : Repr N0 (Int × Int) := Repr.pair Repr.int Repr.int
def codeR (N0 : Nat) : Repr N0 (List (Int × Int)) := Repr.row 68 (insR N0)
theorem insR_mk (N0 : Nat) (w : World) (B : Nat) (op a : Int) (h1 : I64 op) (h2 : I64 a) : (insR N0).rel w B (op, a) [.int .i64 op, .int .i64 a] := ⟨[_], [_], rfl, ⟨rfl, h1⟩, rfl, h2⟩
theorem insR_eq {N0 : Nat} {w : World} {B : Nat} {x : Int × Int} {cs : List Value} (h : (insR N0).rel w B x cs) : cs = [.int .i64 x.1, .int .i64 x.2] := by
  obtain ⟨_, _, rfl, ⟨rfl, _⟩, rfl, _⟩ := h; rfl
theorem insR_i64 {N0 : Nat} {w : World} {B : Nat} {x : Int × Int} {cs : List Value} (h : (insR N0).rel w B x cs) : I64 x.1 ∧ I64 x.2 := by
  obtain ⟨_, _, rfl, ⟨rfl, h1⟩, rfl, h2⟩ := h; exact ⟨h1, h2⟩
theorem insCells_flat (l : List (Int × Int)) : insCells l = l.flatMap fun x => [.int .i64 x.1, .int .i64 x.2] := by
  induction l with
  | nil => rfl
  | cons x r ih => simp [insCells, ih]
theorem codeR_reads {N0 : Nat} {w : World} {B : Nat} {A : Option Addr} {l : List (Int × Int)} (h : RowAt (insR N0) 68 w B A l) : Reads w B 2 A l.length (insCells l) := by
  rw [insCells_flat]; exact h.reads _ fun a cs h => insR_eq h
/-- all its numbers are such as an int can be -/
def Ints (l : List (Int × Int)) : Prop := ∀ x ∈ l, I64 x.1 ∧ I64 x.2
theorem codeR_ints {N0 : Nat} {w : World} {B : Nat} {A : Option Addr} {t : TypeId} {l : List (Int × Int)} (h : RowAt (insR N0) t w B A l) : Ints l := by
  intro x hx
  obtain ⟨i, hi⟩ := List.getElem?_of_mem hx
  obtain ⟨_, _, _, _, _, hr, _⟩ := h.get hi
  exact insR_i64 hr
theorem rowsR_at {N0 : Nat} {w : World} {B : Nat} {A : Option Addr} {ll : List (List (Int × Int))} (h : RowAt (codeR N0) 49 w B A ll) : RowsAt w B A ll := by
  obtain ⟨css, h1, h2, h3⟩ := h
  have key : ∀ (i : Nat) l cs, ll[i]? = some l → css[i]? = some cs → ∃ v, cs = [v] ∧ InsAt w B v l := by
    intro i l cs hl hc
    obtain ⟨A, c, rfl, _, _, hr⟩ := h2 i l cs hl hc
    exact ⟨_, rfl, A, c, rfl, codeR_reads hr⟩
  have hlen : ∀ cs ∈ css, cs.length = 1 := by
    intro cs hcs
    obtain ⟨i, hi⟩ := List.getElem?_of_mem hcs
    have hlt : i < css.length := (List.getElem?_eq_some_iff.1 hi).1
    obtain ⟨v, rfl, _⟩ := key i (ll[i]'(by omega)) cs (List.getElem?_eq_getElem (by omega)) hi
    rfl
  obtain ⟨f1, f2⟩ := flatten_get css hlen
  refine ⟨css.flatten, ⟨by omega, fun hn => ?_⟩, fun i l hl => ?_⟩
  · obtain ⟨b, off, xs, t', fz, e, hb, _, hh, hc⟩ := h3 hn
    refine ⟨b, off, e, hb, fun j u hu => ?_⟩
    have hj : j < css.length := by have := (List.getElem?_eq_some_iff.1 hu).1; omega
    have hcj : css[j]? = some (css[j]'hj) := List.getElem?_eq_getElem hj
    obtain ⟨v, hv, _⟩ := key j (ll[j]'(by omega)) _ (List.getElem?_eq_getElem (by omega)) hcj
    rw [hv] at hcj
    have h4 := f2 j 0 [v] v hcj rfl
    simp only [Nat.mul_one, Nat.add_zero] at h4
    rw [h4] at hu
    injection hu with hu
    subst hu
    rw [cell_of_row w b _ xs _ fz hh]
    have h5 := hc j 0 [v] v hcj rfl
    simpa [codeR, Repr.row] using h5
  · have hlt : i < css.length := by have := (List.getElem?_eq_some_iff.1 hl).1; omega
    obtain ⟨v, hv, hin⟩ := key i l _ hl (List.getElem?_eq_getElem hlt)
    refine ⟨v, ?_, hin⟩
    have h4 := f2 i 0 [v] v (by rw [List.getElem?_eq_getElem hlt, hv]) rfl
    simpa using h4

end Go.Proofs.Ytnalbkjbidaojaa
namespace Go.Proofs.Ytnalbkjbidaojaa
open Go.RowKit

/-- the same, at a step of a region that draws its order -/
theorem step_push {P : Program} (w : World) {ops : Array Oper} {o : Oper} {a : Act} {K : Act → World → Prop} {Q : Exit → Act → World → Prop} {E : Prop} (hgd : o.guard = none) (s x : Operand) (t : TypeId)
    (ho : o.op = .call { callee := .builtin .append, args := #[s, x], argTypes := #[t, t] }) {N0 : Nat} {α : Type} (R : Repr N0 α)
    (base : Nat) (e : TypeId) (i : TypeInfo) (z : Value) (bytes : Nat) (ht : P.underlying t = some (.slice e)) (hi : P.info? e = some i) (hz : i.zero = some z)
    (hsize : i.size = R.size) (hby : i.bytes = bytes) (hzs : z.cells.size = R.size) (hsz : 0 < R.size) (hno : e ∉ R.tys) (hN : N0 ≤ base)
    (v : Value) (l : List α) (hs : a.eval s = v) (hown : OwnAt R e base w v l)
    (g : Nat) (cs : List Value) (y : α) (hx : a.eval x = .slice (some ⟨g, 0, none⟩) 1 1) (hblk : Blk w g e cs.toArray) (hy : R.rel w w.heap.size y cs)
    (h63 : l.length + 1 ≤ maxLen) (hbytes : (l.length + 1) * bytes ≤ 140737488355328) (hbase : base ≤ w.heap.size)
    (h : ∀ A' c' w', OwnAt R e base w' (.slice A' (l.length + 1) c') (l ++ [y]) → w.grownBy w' v.ownBlock → K (a.put o.dst (.slice A' (l.length + 1) c')) w') :
    if Region.wanted o (yielded ops a.tmps) = true then Oper.wp P o a w K Q else E := by
  have hw : Region.wanted o (yielded ops a.tmps) = true := by simp [Region.wanted, hgd]
  rw [if_pos hw]
  obtain ⟨css, hw', h1, h2⟩ := hown
  have hr : Reads w w.heap.size R.size (some ⟨g, 0, none⟩) 1 cs := ⟨by rw [R.len hy]; omega, fun _ => ⟨_, _, rfl, hblk.lt, fun j u hu => by rw [Nat.zero_add, hblk.cell]; simpa using hu⟩⟩
  exact wp_append_any w s x t ho base e i z R.size bytes ht hi hz hsize hby hzs hsz v l.length css.flatten hs hw' w.heap.size _ 1 1 cs hx hr (R.one hy) h63 hbytes hbase
    fun v' w' h3 h4 _ => by
      have h6 := OwnAt.push hw' h1 h2 hno hN hy h3 h4
      obtain ⟨A', c', e', _⟩ := h6.form
      rw [List.length_append, List.length_singleton] at e'
      subst e'
      exact h A' c' w' h6 h4

/-- what is read stays, where block M alone changes, which is of another type -/
theorem Repr.fr {N0 : Nat} {α : Type} (R : Repr N0 α) {w w' : World} {B : Nat} {a : α} {cs : List Value} (h : R.rel w B a cs) {M : Nat} {tM : TypeId} {xM : Array Value} (hf : Fr (fun k => k = M) w w') (hM : Blk w M tM xM) (hne : tM ∉ R.tys) (hN : N0 ≤ M) : R.rel w' B a cs :=
  R.keep h fun g t xs fz _ ht hh => by
    have hlt : g < w.heap.size := (Array.getElem?_eq_some_iff.1 hh).1
    rw [hf.block g hlt]
    · exact hh
    · rintro rfl
      rcases ht with ht | ht
      · omega
      · unfold Blk at hM
        rw [hM] at hh
        injection hh with hh
        injection hh with _ h2
        exact hne (h2 ▸ ht)
theorem OwnAt.fr {N0 : Nat} {α : Type} {R : Repr N0 α} {t : TypeId} {base : Nat} {w w' : World} {v : Value} {l : List α} (h : OwnAt R t base w v l) {M : Nat} {tM : TypeId} {xM : Array Value} (hf : Fr (fun k => k = M) w w') (hM : Blk w M tM xM) (hne : tM ∉ t :: R.tys) (hN : N0 ≤ M) : OwnAt R t base w' v l :=
  h.keep hf.size fun g t xs fz ht hh => by
    have hlt : g < w.heap.size := (Array.getElem?_eq_some_iff.1 hh).1
    rw [hf.block g hlt]
    · exact hh
    · rintro rfl
      rcases ht with ht | ht
      · omega
      · unfold Blk at hM
        rw [hM] at hh
        injection hh with hh
        injection hh with _ h2
        exact hne (h2 ▸ ht)
theorem Repr.setCell {N0 : Nat} {α : Type} (R : Repr N0 α) {w : World} {B : Nat} {a : α} {cs : List Value} (h : R.rel w B a cs) {g0 : Nat} {t0 : TypeId} {xs0 : Array Value} (hb : Blk w g0 t0 xs0) (hne : t0 ∉ R.tys) (hN : N0 ≤ g0) (i : Nat) (u : Value) : R.rel (w.setCell ⟨g0, i, none⟩ u) B a cs :=
  R.keep h fun g t xs fz _ ht hh => by
    rcases ht with ht | ht
    · rw [Below.heap_setCell _ _ _ _ (by simp; omega)]; exact hh
    · exact set_keeps hb i u g t xs fz (fun e => hne (e ▸ ht)) hh
theorem size_setCell (w : World) (p : Addr) (u : Value) : (w.setCell p u).heap.size = w.heap.size := by simp [World.setCell]

/-- a row that is read, as rows of cells -/
theorem RowAt.flat {N0 : Nat} {α : Type} {R : Repr N0 α} {t : TypeId} {w : World} {B : Nat} {A : Option Addr} {l : List α} (h : RowAt R t w B A l) :
    ∃ css : List (List Value), css.length = l.length ∧ (∀ (i : Nat) a cs, l[i]? = some a → css[i]? = some cs → R.rel w B a cs) ∧ Reads w B R.size A l.length css.flatten := by
  obtain ⟨css, h1, h2, h3⟩ := h
  have hlen : ∀ cs ∈ css, cs.length = R.size := by
    intro cs hcs
    obtain ⟨i, hi⟩ := List.getElem?_of_mem hcs
    have hlt : i < css.length := (List.getElem?_eq_some_iff.1 hi).1
    exact R.len (h2 i (l[i]'(by omega)) cs (List.getElem?_eq_getElem (by omega)) hi)
  have key : ∀ (m : List (List Value)), (∀ cs ∈ m, cs.length = R.size) → ∀ (j : Nat) u, m.flatten[j]? = some u → ∃ (i k : Nat) (cs : List Value), m[i]? = some cs ∧ cs[k]? = some u ∧ j = i * R.size + k := by
    intro m
    induction m with
    | nil => intro _ j u hu; simp at hu
    | cons x r ih =>
      intro hm j u hu
      have hx := hm x List.mem_cons_self
      rw [List.flatten_cons] at hu
      rcases Nat.lt_or_ge j R.size with hj | hj
      · rw [List.getElem?_append_left (by omega)] at hu
        exact ⟨0, j, x, rfl, hu, by omega⟩
      · rw [List.getElem?_append_right (by omega), hx] at hu
        obtain ⟨i, k, cs, ha, hk, hjk⟩ := ih (fun cs hcs => hm cs (List.mem_cons_of_mem _ hcs)) _ _ hu
        exact ⟨i + 1, k, cs, ha, hk, by rw [Nat.succ_mul]; omega⟩
  refine ⟨css, h1, h2, by rw [(flatten_get css hlen).1, h1], fun hn => ?_⟩
  obtain ⟨b, off, xs, t', fz, rfl, hb, _, hh, hc⟩ := h3 hn
  refine ⟨b, off, rfl, hb, fun j u hu => ?_⟩
  obtain ⟨i, k, cs, ha, hk, rfl⟩ := key css hlen j u hu
  rw [cell_of_row w b _ xs t' fz hh, ← Nat.add_assoc]
  exact hc i k cs u ha hk
theorem OwnAt.pushAll {N0 : Nat} {α : Type} {R : Repr N0 α} {t : TypeId} {base : Nat} {w w' : World} {v v' : Value} {l l2 : List α} {css css2 : List (List Value)} (ho : w.ownsRow base t R.size v l.length css.flatten) (h1 : css.length = l.length) (h2 : ∀ (i : Nat) a cs, l[i]? = some a → css[i]? = some cs → R.rel w w.heap.size a cs)
    (k1 : css2.length = l2.length) (k2 : ∀ (i : Nat) a cs, l2[i]? = some a → css2[i]? = some cs → R.rel w w.heap.size a cs) (hno : t ∉ R.tys) (hN : N0 ≤ base)
    (hown : w'.ownsRow base t R.size v' (l.length + l2.length) (css.flatten ++ css2.flatten)) (hg : w.grownBy w' v.ownBlock) : OwnAt R t base w' v' (l ++ l2) := by
  have hb := fun g => OwnAt.block (g := g) ⟨css, ho, h1, h2⟩
  have hr : ∀ (g : Nat) (t' : TypeId) (xs : Array Value) (fz : Nat × Nat), v.ownBlock = some g → w.heap[g]? = some (.cells xs t' fz) → N0 ≤ g ∧ t' ∉ R.tys := by
    intro g t' xs fz e hh
    obtain ⟨hle, _, ys, hy⟩ := hb g e
    rw [hy] at hh
    injection hh with hh
    injection hh with _ ht
    exact ⟨by omega, ht ▸ hno⟩
  refine ⟨css ++ css2, by simpa using hown, by simp [h1, k1], fun i a' cs' ha' hc' => ?_⟩
  rcases Nat.lt_or_ge i l.length with hi | hi
  · rw [List.getElem?_append_left hi] at ha'
    rw [List.getElem?_append_left (by omega)] at hc'
    exact R.more (R.grown (h2 i a' cs' ha' hc') hg hr) hg.size
  · rw [List.getElem?_append_right hi] at ha'
    rw [List.getElem?_append_right (by omega), h1] at hc'
    exact R.more (R.grown (k2 _ a' cs' ha' hc') hg hr) hg.size
theorem RowAt.one {N0 : Nat} {α : Type} {R : Repr N0 α} {w : World} {B : Nat} {l : List α} {css : List (List Value)} (h1 : css.length = l.length) (h2 : ∀ (i : Nat) a cs, l[i]? = some a → css[i]? = some cs → R.rel w B a cs) : ∀ u ∈ css.flatten, u.oneCell' = true := by
  intro u hu
  obtain ⟨cs, hcs, hu⟩ := List.mem_flatten.1 hu
  obtain ⟨i, hi⟩ := List.getElem?_of_mem hcs
  have hlt : i < css.length := (List.getElem?_eq_some_iff.1 hi).1
  exact R.one (h2 i (l[i]'(by omega)) cs (List.getElem?_eq_getElem (by omega)) hi) u hu
/-- append of a whole row that is read -/
theorem wpList_pushAll {P : Program} (w : World) {ops : Array Oper} {rest : List Oper} {o : Oper} {a : Act} {Q : Exit → Act → World → Prop} (hgd : o.guard = none) (s x : Operand) (t : TypeId)
    (ho : o.op = .call { callee := .builtin .append, args := #[s, x], argTypes := #[t, t] }) {N0 : Nat} {α : Type} (R : Repr N0 α)
    (base : Nat) (e : TypeId) (i : TypeInfo) (z : Value) (bytes : Nat) (ht : P.underlying t = some (.slice e)) (hi : P.info? e = some i) (hz : i.zero = some z)
    (hsize : i.size = R.size) (hby : i.bytes = bytes) (hzs : z.cells.size = R.size) (hsz : 0 < R.size) (hno : e ∉ R.tys) (hN : N0 ≤ base)
    (v : Value) (l : List α) (hs : a.eval s = v) (hown : OwnAt R e base w v l)
    (A : Option Addr) (m c : Nat) (l2 : List α) (hm : l2.length = m) (hx : a.eval x = .slice A m c) (t2 : TypeId) (hrow : RowAt R t2 w w.heap.size A l2)
    (h63 : l.length + m ≤ maxLen) (hbytes : (l.length + m) * bytes ≤ 140737488355328) (hbase : base ≤ w.heap.size)
    (h : ∀ A' c' w', OwnAt R e base w' (.slice A' (l.length + m) c') (l ++ l2) → w.grownBy w' v.ownBlock → wpList P ops Q rest (a.put o.dst (.slice A' (l.length + m) c')) w') : wpList P ops Q (o :: rest) a w := by
  subst hm
  obtain ⟨css, hw, h1, h2⟩ := hown
  obtain ⟨css2, k1, k2, k3⟩ := hrow.flat
  exact wpList_append_any w hgd s x t ho base e i z R.size bytes ht hi hz hsize hby hzs hsz v l.length css.flatten hs hw w.heap.size A l2.length c css2.flatten hx k3 (RowAt.one k1 k2) h63 hbytes hbase
    fun v' w' h3 h4 _ => by
      have h6 := OwnAt.pushAll hw h1 h2 k1 k2 hno hN h3 h4
      obtain ⟨A', c', e', _⟩ := h6.form
      rw [List.length_append] at e'
      subst e'
      exact h A' c' w' h6 h4
end Go.Proofs.Ytnalbkjbidaojaa
namespace Go.Proofs.Ytnalbkjbidaojaa
open Go.RowKit

section
variable {P : Program} (w : World)
theorem run_append_zero (t ty e : TypeId) (i : TypeInfo) (ht : P.underlying t = some (.slice e)) (hi : P.info? e = some i) (ad : Addr) (n c0 : Nat) (hn : n ≤ c0) (A : Option Addr) (c : Nat) :
    (Builtin.append_ #[t, t] ty #[.slice (some ad) n c0, .slice A 0 c]).run P w = .ok (.slice (some ad) n c0) w := by
  cases A with
  | none => simp [Builtin.append_, run_underlying ht, sizeOf, typeInfo, hi, Builtin.lenOf, Builtin.firstCells, hn, storeCells]
  | some a => simp [Builtin.append_, run_underlying ht, sizeOf, typeInfo, hi, Builtin.lenOf, Builtin.firstCells, hn, storeCells, loadCells, loadCellsFrom]

theorem run_push_full {N0 : Nat} {α : Type} (R : Repr N0 α) (t ty e : TypeId) (i : TypeInfo) (z : Value) (bytes : Nat) (ht : P.underlying t = some (.slice e)) (hi : P.info? e = some i) (hz : i.zero = some z)
    (hsize : i.size = R.size) (hby : i.bytes = bytes) (_hzs : z.cells.size = R.size)
    (A : Option Addr) (n : Nat) (l : List α) (hl : l.length = n) (h0 : 0 < n) (hrow : RowAt R e w w.heap.size A l)
    (A2 : Option Addr) (m c2 : Nat) (l2 : List α) (hl2 : l2.length = m) (t2 : TypeId) (hrow2 : RowAt R t2 w w.heap.size A2 l2) (h63 : n + m ≤ maxLen) (hbytes : (n + m) * bytes ≤ 140737488355328) :
    ∃ A' c' w', (Builtin.append_ #[t, t] ty #[.slice A n n, .slice A2 m c2]).run P w = .ok (.slice A' (n + m) c') w' ∧ n + m ≤ c' ∧ c' ≤ maxLen ∧ RowAt R e w' w'.heap.size A' (l ++ l2) ∧ Below w.heap.size w w' := by
  subst hl hl2
  obtain ⟨css, h1, h2, h3⟩ := hrow.flat
  obtain ⟨css2, k1, k2, k3⟩ := hrow2.flat
  obtain ⟨b, off, rfl, hb, hcell⟩ := h3.2 h0
  have hadd : ∀ (b' off' j : Nat), (⟨b', off', none⟩ : Addr).add j = ⟨b', off' + j, none⟩ := fun b' off' j => by unfold Addr.add; split <;> simp_all
  rcases Nat.eq_zero_or_pos l2.length with hz2 | hz2
  · have hl2 : l2 = [] := List.eq_nil_of_length_eq_zero hz2
    subst hl2
    refine ⟨_, l.length, w, run_append_zero w t ty e i ht hi _ _ _ (Nat.le_refl _) A2 c2, by simp, by simp at h63; omega, by simpa using hrow, Below.refl _ _⟩
  · obtain ⟨b2, off2, rfl, hb2, hcell2⟩ := k3.2 hz2
    have hr := run_append_grow (P := P) w t ty e i z ht hi hz ⟨b, off, none⟩ l.length l.length css.flatten (by rw [hsize]; exact h3.1) (fun j u hu => by rw [hadd]; exact hcell j u hu) ⟨b2, off2, none⟩ l2.length c2 css2.flatten (by rw [hsize]; exact k3.1) (fun j u hu => by rw [hadd]; exact hcell2 j u hu) (by omega) (by unfold maxLen at h63; omega) (by rw [hby]; exact growslice_fits (by omega) hbytes)
    refine ⟨_, _, _, hr, grownCap_ge _ _ _ _, grownCap_le_maxLen _ _ _ _ h63, ?_, ((Below.refl w.heap.size w).drew).alloc (Nat.le_refl _) _⟩
    have hbl : Below w.heap.size w (w.drew.alloc (.cells (css.flatten.toArray ++ css2.flatten.toArray ++ Builtin.zeroCells z.cells (grownCap w (l.length + l2.length) l.length e - (l.length + l2.length))) e)) := ((Below.refl w.heap.size w).drew).alloc (Nat.le_refl _) _
    have hlenA : ∀ cs ∈ css ++ css2, cs.length = R.size := by
      intro cs hcs
      rcases List.mem_append.1 hcs with hc | hc
      · obtain ⟨j, hj⟩ := List.getElem?_of_mem hc
        have hlt : j < css.length := (List.getElem?_eq_some_iff.1 hj).1
        exact R.len (h2 j (l[j]'(by omega)) cs (List.getElem?_eq_getElem (by omega)) hj)
      · obtain ⟨j, hj⟩ := List.getElem?_of_mem hc
        have hlt : j < css2.length := (List.getElem?_eq_some_iff.1 hj).1
        exact R.len (k2 j (l2[j]'(by omega)) cs (List.getElem?_eq_getElem (by omega)) hj)
    obtain ⟨f1, f2⟩ := flatten_get _ hlenA
    refine ⟨css ++ css2, by simp [h1, k1], ?_, fun _ => ⟨w.heap.size, 0, _, e, (0, 0), rfl, by simp, .inr rfl, heap_alloc_new w.drew _, ?_⟩⟩
    · intro j y cs hy hc
      rcases Nat.lt_or_ge j l.length with hj | hj
      · rw [List.getElem?_append_left hj] at hy
        rw [List.getElem?_append_left (by omega)] at hc
        exact R.more (R.below (h2 j y cs hy hc) hbl (Nat.le_refl _)) (by simp)
      · rw [List.getElem?_append_right hj] at hy
        rw [List.getElem?_append_right (by omega), h1] at hc
        exact R.more (R.below (k2 _ y cs hy hc) hbl (Nat.le_refl _)) (by simp)
    · intro a' j cs u ha hj
      have := f2 a' j cs u ha hj
      rw [List.flatten_append] at this
      have hlt := (List.getElem?_eq_some_iff.1 this).1
      rw [Nat.zero_add, Array.getElem?_append_left (by simpa using hlt)]
      simpa using this

theorem wp_push_full {o : Oper} {a : Act} {K : Act → World → Prop} {Q : Exit → Act → World → Prop} (s x : Operand) (t : TypeId)
    (ho : o.op = .call { callee := .builtin .append, args := #[s, x], argTypes := #[t, t] }) {N0 : Nat} {α : Type} (R : Repr N0 α) (e : TypeId) (i : TypeInfo) (z : Value) (bytes : Nat) (ht : P.underlying t = some (.slice e)) (hi : P.info? e = some i) (hz : i.zero = some z)
    (hsize : i.size = R.size) (hby : i.bytes = bytes) (hzs : z.cells.size = R.size)
    (A : Option Addr) (n : Nat) (l : List α) (hl : l.length = n) (h0 : 0 < n) (hs : a.eval s = .slice A n n) (hrow : RowAt R e w w.heap.size A l)
    (A2 : Option Addr) (m c2 : Nat) (l2 : List α) (hl2 : l2.length = m) (hx : a.eval x = .slice A2 m c2) (t2 : TypeId) (hrow2 : RowAt R t2 w w.heap.size A2 l2) (h63 : n + m ≤ maxLen) (hbytes : (n + m) * bytes ≤ 140737488355328)
    (h : ∀ A' c' w', n + m ≤ c' → c' ≤ maxLen → RowAt R e w' w'.heap.size A' (l ++ l2) → Below w.heap.size w w' → K (a.put o.dst (.slice A' (n + m) c')) w') : o.wp P a w K Q := by
  obtain ⟨A', c', w', hrun, g1, g2, g3, g4⟩ := run_push_full (P := P) w R t o.type e i z bytes ht hi hz hsize hby hzs A n l hl h0 hrow A2 m c2 l2 hl2 t2 hrow2 h63 hbytes
  unfold Oper.wp execOp
  simp only [ho, resolve, invoke, builtin, Sem.run_bind, Sem.run_pure, Result.andThen_ok, List.map_toArray, List.map_cons, List.map_nil, hs, hx, hrun]
  exact h A' c' w' g1 g2 g3 g4
end
end Go.Proofs.Ytnalbkjbidaojaa
namespace Go.Proofs.Ytnalbkjbidaojaa
open Go.RowKit

theorem flatten_set {n : Nat} (u : Value) : ∀ (css : List (List Value)), (∀ cs ∈ css, cs.length = n) → ∀ (i j : Nat) (cs : List Value), css[i]? = some cs → j < n → css.flatten.set (i * n + j) u = (css.set i (cs.set j u)).flatten
  | [], _, i, j, cs, h, _ => by simp at h
  | x :: r, h, i, j, cs, hi, hj => by
    have hx := h x List.mem_cons_self
    cases i with
    | zero =>
      simp only [List.getElem?_cons_zero, Option.some.injEq] at hi
      subst hi
      simp only [List.flatten_cons, List.set_cons_zero, Nat.zero_mul, Nat.zero_add]
      rw [List.set_append_left _ _ (by omega)]
    | succ i =>
      simp only [List.getElem?_cons_succ] at hi
      have ih := flatten_set u r (fun cs hcs => h cs (List.mem_cons_of_mem _ hcs)) i j cs hi hj
      simp only [List.flatten_cons, List.set_cons_succ]
      rw [List.set_append_right _ _ (by rw [Nat.succ_mul]; omega), show (i + 1) * n + j - x.length = i * n + j by rw [Nat.succ_mul]; omega, ih]

section
variable {N0 : Nat} {α : Type} {R : Repr N0 α} {t : TypeId} {base : Nat} {w : World} {v : Value} {l : List α}
/-- an element of a row of one's own: where its cells lie -/
theorem OwnAt.elem (h : OwnAt R t base w v l) {i : Nat} {a : α} (ha : l[i]? = some a) :
    ∃ g cap xs cs, v = .slice (some ⟨g, 0, none⟩) l.length cap ∧ base ≤ g ∧ g < w.heap.size ∧ Blk w g t xs ∧ R.rel w w.heap.size a cs ∧ (∀ (j : Nat) u, cs[j]? = some u → w.cell? ⟨g, i * R.size + j, none⟩ = some u) ∧ (∀ j, w.frozen? ⟨g, j, none⟩ = false) := by
  obtain ⟨css, ho, h1, h2⟩ := h
  have hil : i < l.length := (List.getElem?_eq_some_iff.1 ha).1
  have hlen := OwnAt.cssLen h1 h2
  obtain ⟨f1, f2⟩ := flatten_get css hlen
  have hcs : css[i]? = some (css[i]'(by omega)) := List.getElem?_eq_getElem (by omega)
  rcases ho.2 with ⟨rfl, h0⟩ | ⟨g, cap, cur, rfl, hg, hh, hcap1, hcap2, _, htk⟩
  · omega
  · have hb : Blk w g t cur := hh
    refine ⟨g, cap, cur, _, rfl, hg, hb.lt, hb, h2 i a _ ha hcs, fun j u hu => ?_, hb.frozen⟩
    have := f2 i j _ u hcs hu
    rw [← htk, List.getElem?_take] at this
    split at this
    · rw [hb.cell]; simpa using this
    · cases this
/-- one of its cells is written -/
theorem OwnAt.upd (h : OwnAt R t base w v l) {i j : Nat} {a a' : α} (ha : l[i]? = some a) (hj : j < R.size) (u : Value) (hno : t ∉ R.tys) (hN : N0 ≤ base) (hr : ∀ cs, R.rel w w.heap.size a cs → R.rel w w.heap.size a' (cs.set j u)) {g n cap : Nat} (hv : v = .slice (some ⟨g, 0, none⟩) n cap) :
    OwnAt R t base (w.setCell ⟨g, i * R.size + j, none⟩ u) v (l.set i a') := by
  obtain ⟨css, ho, h1, h2⟩ := h
  have hil : i < l.length := (List.getElem?_eq_some_iff.1 ha).1
  have hlen := OwnAt.cssLen h1 h2
  have hcs : css[i]? = some (css[i]'(by omega)) := List.getElem?_eq_getElem (by omega)
  have hlt : i * R.size + j < l.length * R.size := by
    have : (i + 1) * R.size ≤ l.length * R.size := Nat.mul_le_mul_right _ (by omega)
    rw [Nat.succ_mul] at this
    omega
  have hgb : ∃ cur, Blk w g t cur ∧ base ≤ g := by
    rcases ho.2 with ⟨h', _⟩ | ⟨g', cap', cur, h', hg, hh, _⟩
    · rw [hv] at h'; cases h'
    · rw [hv] at h'; injection h' with h'; injection h' with h'; injection h' with h'; subst h'; exact ⟨cur, hh, hg⟩
  obtain ⟨cur, hb, hge⟩ := hgb
  obtain ⟨g', cap', hv', _, _, _, _, hset⟩ := own_set ho hlt
  have hgg : g = g' := by rw [hv] at hv'; injection hv' with h'; injection h' with h'; injection h' with h'
  subst hgg
  refine ⟨css.set i ((css[i]'(by omega)).set j u), ?_, by simp [h1], fun k b cs hb' hc => ?_⟩
  · rw [← flatten_set u css hlen i j _ hcs hj]
    simpa using hset u
  · rw [size_setCell]
    refine R.setCell ?_ hb hno (by omega) _ _
    by_cases hik : i = k
    · subst hik
      rw [List.getElem?_set_self (by omega)] at hb' hc
      injection hb' with hb'
      injection hc with hc
      subst hb' hc
      exact hr _ (h2 i a _ ha hcs)
    · rw [List.getElem?_set_ne hik] at hb' hc
      exact h2 k b cs hb' hc
/-- the block of a row of one's own is of its type -/
theorem OwnAt.blk (h : OwnAt R t base w v l) {g n cap : Nat} (hv : v = .slice (some ⟨g, 0, none⟩) n cap) : base ≤ g ∧ ∃ xs, Blk w g t xs := by
  obtain ⟨css, ho, _, _⟩ := h
  rcases ho.2 with ⟨h', _⟩ | ⟨g', cap', cur, h', hg, hh, _⟩
  · rw [hv] at h'; cases h'
  · rw [hv] at h'; injection h' with h'; injection h' with h'; injection h' with h'; subst h'; exact ⟨hg, cur, hh⟩
/-- a cell of another block is written -/
theorem OwnAt.far (h : OwnAt R t base w v l) {k : Nat} {t0 : TypeId} {xs : Array Value} (hb : Blk w k t0 xs) (hd : ∀ k', v.ownBlock = some k' → k' ≠ k) (hne : t0 ∉ R.tys) (hN : N0 ≤ k) (i : Nat) (u : Value) : OwnAt R t base (w.setCell ⟨k, i, none⟩ u) v l := by
  obtain ⟨css, ho, h1, h2⟩ := h
  refine ⟨css, ⟨ho.1, ?_⟩, h1, fun j a cs ha hc => ?_⟩
  · rcases ho.2 with h | ⟨g, cap, cur, hv, hle, hh, hr⟩
    · exact .inl h
    · exact .inr ⟨g, cap, cur, hv, hle, by rw [Below.heap_setCell _ _ _ _ (by have := hd g (by rw [hv]; rfl); simpa using this)]; exact hh, hr⟩
  · rw [size_setCell]; exact R.setCell (h2 j a cs ha hc) hb hne hN _ _
theorem OwnAt.rowTy (h : OwnAt R t base w v l) (hN : N0 ≤ base) (g : Nat) (t' : TypeId) (xs : Array Value) (fz : Nat × Nat) (e : v.ownBlock = some g) (hh : w.heap[g]? = some (.cells xs t' fz)) : N0 ≤ g ∧ t' = t := by
  obtain ⟨h1, _, ys, hy⟩ := h.block e
  rw [hy] at hh
  injection hh with hh
  injection hh with _ ht
  exact ⟨by omega, ht.symm⟩
theorem OwnAt.apart {β : Type} {S : Repr N0 β} {w' : World} {base2 : Nat} {t2 : TypeId} {v2 : Value} {l2 : List β} (h : OwnAt S t2 base2 w v2 l2) (k : OwnAt R t base w v l) (hg : w.grownBy w' v.ownBlock) (hN : N0 ≤ base) (hne : t ∉ t2 :: S.tys) : OwnAt S t2 base2 w' v2 l2 :=
  h.grown hg fun g t' xs fz e hh => by obtain ⟨h1, h2⟩ := k.rowTy hN g t' xs fz e hh; exact ⟨h1, h2 ▸ hne⟩
end
/-- what is read stays, where a row of another type grows -/
theorem Repr.apart {N0 : Nat} {β : Type} (S : Repr N0 β) {α : Type} {R : Repr N0 α} {t : TypeId} {base : Nat} {w : World} {v : Value} {l : List α} {w' : World} {B : Nat} {b : β} {cs : List Value} (h : S.rel w B b cs) (k : OwnAt R t base w v l) (hg : w.grownBy w' v.ownBlock) (hN : N0 ≤ base) (hne : t ∉ S.tys) : S.rel w' B b cs :=
  S.grown h hg fun g t' xs fz e hh => by obtain ⟨h1, h2⟩ := k.rowTy hN g t' xs fz e hh; exact ⟨h1, h2 ▸ hne⟩
end Go.Proofs.Ytnalbkjbidaojaa
namespace Go.Proofs.Ytnalbkjbidaojaa
open Go.RowKit

/-- the maker: its block, its numbers (they lie below B), the cells of its font, and its loops -/
structure MkC where
  M : Nat
  B : Nat
  sA : Option Addr
  sn : Nat
  sc : Nat
  c2 : Value
  c3 : Value
  c4 : Value
  c5 : Value
  c6 : Value
  c7 : Value
  c8 : Value
  c9 : Value
  c10 : Value
  c11 : Value
def Mk (w : World) (m : MkC) : Prop :=
  ∃ at_ : Nat, at_ ≤ m.sn ∧ m.sn ≤ 1000000000000 ∧ m.B ≤ m.M ∧ Blk w m.M 96 #[.slice m.sA m.sn m.sc, .int .i64 at_, m.c2, m.c3, m.c4, m.c5, m.c6, m.c7, m.c8, m.c9, m.c10, m.c11] ∧
    ∃ xs : List Int, Reads w m.B 1 m.sA m.sn (xs.map (Value.int .i64)) ∧ ∀ x ∈ xs, I64 x
theorem Mk.lt {w : World} {m : MkC} (h : Mk w m) : m.M < w.heap.size := by
  obtain ⟨_, _, _, _, hb, _⟩ := h; exact hb.lt
theorem Mk.cells {w : World} {m : MkC} (h : Mk w m) :
    (∀ i, 2 ≤ i → w.cell? ⟨m.M, i, none⟩ = (#[m.c2, m.c3, m.c4, m.c5, m.c6, m.c7, m.c8, m.c9, m.c10, m.c11] : Array Value)[i - 2]?) ∧ ∀ i, w.frozen? ⟨m.M, i, none⟩ = false := by
  obtain ⟨_, _, _, _, hb, _⟩ := h
  refine ⟨fun i hi => ?_, hb.frozen⟩
  rw [hb.cell]
  obtain ⟨j, rfl⟩ : ∃ j, i = j + 2 := ⟨i - 2, by omega⟩
  simp
/-- only block M has changed, and new blocks may have come -/
abbrev FrM (M : Nat) (w w' : World) : Prop := Fr (fun k => k = M) w w'
def NextPost (m : MkC) (n : Int) (w : World) (e : Ending) (w' : World) : Prop :=
  ∃ r : Int, 0 ≤ r ∧ r < n ∧ e = .returned (.int .i64 r) ∧ Mk w' m ∧ FrM m.M w w' ∧ w'.heap.size = w.heap.size

set_option maxHeartbeats 1000000 in
theorem mkNext_any (w : World) (m : MkC) (n : Int) (h : Mk w m) (hn0 : 1 ≤ n) (hn1 : n ≤ 1000000000) :
    Calls Try.prog 36 #[.pointer (some ⟨m.M, 0, none⟩), .int .i64 n] w (NextPost m n w) := by
  obtain ⟨M, B, sA, sn, sc, c2, c3, c4, c5, c6, c7, c8, c9, c10, c11⟩ := m
  obtain ⟨at_, ha, hs, hBM, hb, xs, hr, hx⟩ := h
  simp only at ha hs hBM hb hr hx ⊢
  have hMl := hb.lt
  have m0 := hb.cell 0
  have m1 := hb.cell 1
  have z1 := hb.frozen 1
  simp only [List.getElem?_toArray, List.getElem?_cons_zero, List.getElem?_cons_succ] at m0 m1
  have HB := Lib.hid hb
  have HR := Lib.hid hr
  have HX := Lib.hid hx
  clear hb hr hx
  by_cases hlt : at_ < sn
  · obtain ⟨b, off, rfl, hbB, hcells⟩ := HR.out.2 (by omega)
    have hxl : xs.length = sn := by have := HR.out.1; simpa using this
    obtain ⟨x, hxa⟩ : ∃ x, xs[at_]? = some x := ⟨_, List.getElem?_eq_getElem (by omega)⟩
    have d0 := hcells at_ (.int .i64 x) (by rw [List.getElem?_map, hxa]; rfl)
    have hxi := HX.out x (List.mem_of_getElem? hxa)
    unfold I64 at hxi
    have ht1 : -n < x.tmod n := by have := Int.lt_tmod_of_pos x (show 0 < n by omega); omega
    have ht2 : x.tmod n < n := Int.tmod_lt_of_pos x (by omega)
    have hne : b ≠ M := by omega
    have hbl : b < w.heap.size := by omega
    have hrn : 0 ≤ (x.tmod n + n) % n ∧ (x.tmod n + n) % n < n := ⟨Int.emod_nonneg _ (by omega), Int.emod_lt_of_pos _ (by omega)⟩
    have i1 : (0 : Int) ≤ (at_ : Int) := by omega
    have i2 : (at_ : Int) < (sn : Int) := by omega
    clear hcells hxa hxl
    go_enter Try.func36, Try.ntmps36
    go_wp2_with fail
    go_quiet (fail)
    obtain ⟨nq', hnq⟩ : ∃ nq', nq' = nq := ⟨_, rfl⟩
    rw [← hnq]
    clear hnq
    go_wp2_with fail
    go_quiet (fail)
    go_wp2_with fail
    go_ret
    refine ⟨_, hrn.1, hrn.2, rfl, ⟨at_ + 1, by show at_ + 1 ≤ sn; omega, hs, hBM, ?_, xs, (HR.out.drewN _).setCell hBM _, HX.out⟩, ((Fr.refl (fun k => k = M) w).drewN _).setCell (.inl rfl) _, by simp [World.setCell]⟩
    have := (HB.out.drewN (nq' + nq)).set_ 1 (.int .i64 ((at_ : Int) + 1))
    simpa using this
  · have hge : (sn : Int) ≤ (at_ : Int) := by omega
    go_enter Try.func36, Try.ntmps36
    go_wp2_with fail
    go_quiet (fail)
    go_wp2_with fail
    go_ret
    exact ⟨0, by omega, by omega, rfl, ⟨at_, ha, hs, hBM, HB.out.drewN _, xs, HR.out.drewN _, HX.out⟩, (Fr.refl _ w).drewN _, rfl⟩
end Go.Proofs.Ytnalbkjbidaojaa
namespace Go.Proofs.Ytnalbkjbidaojaa
open Go.RowKit

def pointR (N0 : Nat) : Repr N0 (Int × Int × Bool) := Repr.pair Repr.int (Repr.pair Repr.int Repr.bool)
def intsR (N0 : Nat) : Repr N0 (List Int) := Repr.row 3 Repr.int
def outlineR (N0 : Nat) : Repr N0 (List (Int × Int × Bool) × List Int) := Repr.pair (Repr.row 61 (pointR N0)) (intsR N0)
theorem pointR_mk (N0 : Nat) (w : World) (B : Nat) (x y : Int) (b : Bool) (h1 : I64 x) (h2 : I64 y) : (pointR N0).rel w B (x, y, b) [.int .i64 x, .int .i64 y, .bool b] := ⟨[_], [_, _], rfl, ⟨rfl, h1⟩, [_], [_], rfl, ⟨rfl, h2⟩, rfl⟩
theorem point_info : (Try.prog.info? 61).map (fun i => (i.zero, i.size, i.bytes)) = some (some (.agg #[.int .i64 0, .int .i64 0, .bool false]), 3, 24) := by kernel_rfl
theorem intM_info : (Try.prog.info? 3).map (fun i => (i.zero, i.size, i.bytes)) = some (some (.int .i64 0), 1, 8) := by kernel_rfl

section
variable (N0 : Nat) (m : MkC) (w0 : World)
/-- while an outline is made: its box, its two rows -/
structure OutI (ob : Nat) (wx : World) (vp ve : Value) (l : List (Int × Int × Bool)) (es : List Int) : Prop where
  box : Blk wx ob 32 #[vp, ve]
  pts : OwnAt (pointR N0) 61 w0.heap.size wx vp l
  ends : OwnAt (Repr.int (N0 := N0)) 3 w0.heap.size wx ve es
  hmk : Mk wx m
  fr : FrM m.M w0 wx
  hob : w0.heap.size ≤ ob
  hM : N0 ≤ m.M ∧ m.M < w0.heap.size
end
section
variable {N0 : Nat} {m : MkC} {w0 wx wy : World} {ob : Nat} {vp ve : Value} {l : List (Int × Int × Bool)} {es : List Int}
theorem OutI.next (h : OutI N0 m w0 ob wx vp ve l es) (hm : Mk wy m) (hf : FrM m.M wx wy) : OutI N0 m w0 ob wy vp ve l es := by
  have hm0 := h.hmk
  obtain ⟨at_, _, _, _, hb, _⟩ := hm0
  have hM := h.hM
  have hob := h.hob
  exact ⟨hf.blk h.box (by omega), h.pts.fr hf hb (by simp [pointR, Repr.pair, Repr.int, Repr.bool]) hM.1, h.ends.fr hf hb (by simp [Repr.int]) hM.1, hm, h.fr.trans hf, hob, hM⟩
theorem OutI.alloc (h : OutI N0 m w0 ob wx vp ve l es) (o : Obj) : OutI N0 m w0 ob (wx.alloc o) vp ve l es := by
  obtain ⟨at_, ha, hs, hBM, hb, xs, hr, hx⟩ := h.hmk
  have hl := hb.lt
  exact ⟨h.box.alloc o, h.pts.below ((Below.refl _ _).alloc (Nat.le_refl _) _) (Nat.le_refl _), h.ends.below ((Below.refl _ _).alloc (Nat.le_refl _) _) (Nat.le_refl _), ⟨at_, ha, hs, hBM, hb.alloc o, xs, hr.alloc (by omega) o, hx⟩, h.fr.alloc o, h.hob, h.hM⟩
theorem OutI.drew (h : OutI N0 m w0 ob wx vp ve l es) : OutI N0 m w0 ob wx.drew vp ve l es :=
  ⟨h.box, h.pts.below (Below.refl wx.heap.size wx).drew (Nat.le_refl _), h.ends.below (Below.refl wx.heap.size wx).drew (Nat.le_refl _), h.hmk, h.fr.drew, h.hob, h.hM⟩
theorem i64_wrap (x : Int) : I64 (IntKind.i64.wrap x) := by rw [IntKind.wrap_i64]; unfold I64; omega
theorem Mk.grown {α : Type} {R : Repr N0 α} {t : TypeId} {base : Nat} {v : Value} {l : List α} (h : Mk wx m) (ho : OwnAt R t base wx v l) (hg : wx.grownBy wy v.ownBlock) (hne : 96 ≠ t) (hb : m.M < base) : Mk wy m := by
  obtain ⟨at_, ha, hs, hBM, hbk, xs, hr, hx⟩ := h
  refine ⟨at_, ha, hs, hBM, hbk.grownOwn ho hg hne, xs, hr.keep fun p hp => ?_, hx⟩
  exact World.cell?_of_block (w := wx) (hg.block p.block (by have := hbk.lt; omega) fun e => by obtain ⟨h1, _⟩ := ho.block e.symm; omega)
theorem Mk.alloc (h : Mk wx m) (o : Obj) : Mk (wx.alloc o) m := by
  obtain ⟨at_, ha, hs, hBM, hb, xs, hr, hx⟩ := h
  have hl := hb.lt
  exact ⟨at_, ha, hs, hBM, hb.alloc o, xs, hr.alloc (by omega) o, hx⟩
theorem Mk.setCell (h : Mk wx m) {p : Addr} (hp : m.M < p.block) (u : Value) : Mk (wx.setCell p u) m := by
  obtain ⟨at_, ha, hs, hBM, hb, xs, hr, hx⟩ := h
  exact ⟨at_, ha, hs, hBM, hb.far (by omega) u, xs, hr.setCell (by omega) u, hx⟩
theorem Fr.grownM {M : Nat} {row : Option Nat} (h : FrM M w0 wx) (hg : wx.grownBy wy row) (hr : ∀ g, row = some g → w0.heap.size ≤ g) : FrM M w0 wy :=
  ⟨hg.os.trans h.os, hg.tape.trans h.tape, hg.output.trans h.output, Nat.le_trans h.size hg.size, fun k hk hs => (hg.block k (Nat.lt_of_lt_of_le hk h.size) fun e => by have := hr k e.symm; omega).trans (h.block k hk hs)⟩
theorem OutI.push (h : OutI N0 m w0 ob wx vp ve l es) {o : Obj} {A' : Option Addr} {n' c' : Nat} {l' : List (Int × Int × Bool)} (ho : OwnAt (pointR N0) 61 w0.heap.size wy (.slice A' n' c') l') (hg : (wx.alloc o).grownBy wy vp.ownBlock) :
    Blk wy ob 32 #[vp, ve] ∧ OutI N0 m w0 ob (wy.setCell ⟨ob, 0, none⟩ (.slice A' n' c')) (.slice A' n' c') ve l' es := by
  have ha := h.alloc o
  have hM := h.hM
  have hob := h.hob
  have hb := ha.box.grownOwn ha.pts hg (by decide)
  have he : OwnAt (Repr.int (N0 := N0)) 3 w0.heap.size wy ve es := ha.ends.grown hg fun g t' xs fz e hh => by
    obtain ⟨h1, _, ys, hy⟩ := ha.pts.block e
    rw [hy] at hh
    injection hh with hh
    injection hh with _ ht
    subst ht
    exact ⟨by omega, by simp [Repr.int]⟩
  refine ⟨hb, ⟨by simpa using hb.set_ 0 (.slice A' n' c'), ho.setCell hb (by simp [pointR, Repr.pair, Repr.int, Repr.bool]) (by omega) 0 _, he.setCell hb (by simp [Repr.int]) (by omega) 0 _, (ha.hmk.grown ha.pts hg (by decide) (by omega)).setCell (by simp; omega) _, ?_, hob, hM⟩⟩
  exact (ha.fr.grownM hg fun g e => (ha.pts.block e).1).setCell (.inr hob) _
theorem OutI.pushE (h : OutI N0 m w0 ob wx vp ve l es) {o : Obj} {A' : Option Addr} {n' c' : Nat} {es' : List Int} (ho : OwnAt (Repr.int (N0 := N0)) 3 w0.heap.size wy (.slice A' n' c') es') (hg : (wx.alloc o).grownBy wy ve.ownBlock) :
    Blk wy ob 32 #[vp, ve] ∧ OutI N0 m w0 ob (wy.setCell ⟨ob, 1, none⟩ (.slice A' n' c')) vp (.slice A' n' c') l es' := by
  have ha := h.alloc o
  have hM := h.hM
  have hob := h.hob
  have hb := ha.box.grownOwn ha.ends hg (by decide)
  have he : OwnAt (pointR N0) 61 w0.heap.size wy vp l := ha.pts.grown hg fun g t' xs fz e hh => by
    obtain ⟨h1, _, ys, hy⟩ := ha.ends.block e
    rw [hy] at hh
    injection hh with hh
    injection hh with _ ht
    subst ht
    exact ⟨by omega, by simp [pointR, Repr.pair, Repr.int, Repr.bool]⟩
  refine ⟨hb, ⟨by simpa using hb.set_ 1 (.slice A' n' c'), he.setCell hb (by simp [pointR, Repr.pair, Repr.int, Repr.bool]) (by omega) 1 _, ho.setCell hb (by simp [Repr.int]) (by omega) 1 _, (ha.hmk.grown ha.ends hg (by decide) (by omega)).setCell (by simp; omega) _, ?_, hob, hM⟩⟩
  exact (ha.fr.grownM hg fun g e => (ha.ends.block e).1).setCell (.inr hob) _
end
end Go.Proofs.Ytnalbkjbidaojaa

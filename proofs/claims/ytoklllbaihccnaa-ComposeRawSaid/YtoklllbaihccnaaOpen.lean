/- An argument opened: what can be read as data lies as a representation says. -/
import Derived.Test.YtoklllbaihccnaaMemo
import Derived.ProofKit
import Derived.OpenShut
import Derived.Lib.SmallJoins
import Derived.Deep.Slices
import Derived.ChangeSame
namespace Go.Proofs.Ytoklllbaihccnaa
open Go.ChangeShapes Go.WideShapes Go.ChangeAt Go.RowKit Go.Deep

section
variable {H : Type} (enc : TypeId × Value → H) (P : Program) (w : World) (spare : Nat → Bool) (held : Bool)
/-- cells of a type that can be read as data hold such a datum -/
def Opens {α : Type} (R : Repr w.heap.size α) (t : TypeId) : Prop :=
  ∀ (fuel : Nat) (cs : List Value) (x : DataW H × List MemPlace), DataW.trod enc P w 0 spare held fuel t cs = some x → ∃ a, R.rel w w.heap.size a cs
def OpensFields {α : Type} (R : Repr w.heap.size α) (off : Nat) (fs : List Field) : Prop :=
  ∀ (cs : List Value), cs.length = off + R.size → (∀ f ∈ fs, ∃ n y, DataW.trod enc P w 0 spare held n f.type ((cs.drop f.offset).take (P.cellsOf f.type)) = some y) → ∃ a, R.rel w w.heap.size a (cs.drop off)
end

section
variable {H : Type} {enc : TypeId × Value → H} {P : Program} {w : World} {spare : Nat → Bool} {held : Bool} {α β : Type}
theorem opens_int {t : TypeId} (ht : P.underlying t = some (.int .i64)) : Opens enc P w spare held (Repr.int (N0 := w.heap.size)) t := by
  intro fuel cs x h
  obtain ⟨n, rfl, _, hw⟩ := DataW.trod_int ht h
  exact ⟨n, rfl, bounds_i64 hw⟩
theorem opens_bool {t : TypeId} (ht : P.underlying t = some .bool) : Opens enc P w spare held (Repr.bool (N0 := w.heap.size)) t := by
  intro fuel cs x h
  obtain ⟨n, rfl, _⟩ := DataW.trod_bool ht h
  exact ⟨n, rfl⟩
theorem opens_str {t : TypeId} (ht : P.underlying t = some .string) : Opens enc P w spare held (Repr.str (N0 := w.heap.size)) t := by
  intro fuel cs x h
  obtain ⟨n, rfl, _⟩ := DataW.trod_string ht h
  exact ⟨n, rfl⟩
theorem opens_field {R : Repr w.heap.size α} {f : Field} {off0 : Nat} (e0 : off0 = f.offset) (h : Opens enc P w spare held R f.type) (hs : P.cellsOf f.type = R.size) : OpensFields enc P w spare held R off0 [f] := by
  subst e0
  intro cs hl hf
  obtain ⟨n, y, hy⟩ := hf f List.mem_cons_self
  rw [List.take_of_length_le (by simp; omega)] at hy
  exact h _ _ _ hy
theorem opens_fields {R : Repr w.heap.size α} {S : Repr w.heap.size β} {f : Field} {fs : List Field} {off0 off : Nat} (e0 : off0 = f.offset) (h : Opens enc P w spare held R f.type) (hs : P.cellsOf f.type = R.size) (ho : off = f.offset + R.size) (h2 : OpensFields enc P w spare held S off fs) :
    OpensFields enc P w spare held (Repr.pair R S) off0 (f :: fs) := by
  subst e0
  intro cs hl hf
  have hl' : cs.length = f.offset + (R.size + S.size) := hl
  obtain ⟨n, y, hy⟩ := hf f List.mem_cons_self
  obtain ⟨a, ha⟩ := h _ _ _ hy
  obtain ⟨b, hb⟩ := h2 cs (by omega) fun g hg => hf g (List.mem_cons_of_mem _ hg)
  refine ⟨(a, b), (cs.drop f.offset).take R.size, cs.drop off, ?_, by rw [hs] at ha; exact ha, hb⟩
  rw [ho, ← List.drop_drop, List.take_append_drop]
theorem opens_struct {R : Repr w.heap.size α} {t : TypeId} {fs : Array Field} (ht : P.underlying t = some (.struct fs)) (hs : P.cellsOf t = R.size) (h : OpensFields enc P w spare held R 0 fs.toList) : Opens enc P w spare held R t := by
  intro fuel cs x hx
  obtain ⟨xs, n, _, _, hl, hlen, hf⟩ := DataW.trod_struct ht hx
  have := h cs (by rw [hl, hs]; omega) fun f hm => by
    obtain ⟨i, hi⟩ := List.getElem?_of_mem hm
    have hi' : fs[i]? = some f := by simpa using hi
    have hlt : i < xs.length := by rw [hlen]; exact (Array.getElem?_eq_some_iff.1 hi').1
    exact ⟨n, xs[i], by rw [hf i f hi', List.getElem?_eq_getElem hlt]⟩
  simpa using this
theorem opens_map {R : Repr w.heap.size α} {t : TypeId} (f : β → α) (g : α → β) (hfg : ∀ a, f (g a) = a) (h : Opens enc P w spare held R t) : Opens enc P w spare held (Repr.map f R) t := by
  intro fuel cs x hx
  obtain ⟨a, ha⟩ := h _ _ _ hx
  exact ⟨g a, by show R.rel _ _ (f (g a)) _; rw [hfg]; exact ha⟩
theorem opens_row {R : Repr w.heap.size α} {t e : TypeId} (ht : P.underlying t = some (.slice e)) (hs : P.cellsOf e = R.size) (h0 : 0 < R.size) (h : Opens enc P w spare held R e) : Opens enc P w spare held (Repr.row e R) t := by
  intro fuel cs x hx
  rcases open_slice ht hx with ⟨rfl, _⟩ | ⟨a, len, cap, m, n, D, Pl, rfl, _, hl, hcm, hm, _, hi⟩
  · exact ⟨[], none, 0, rfl, Nat.le_refl _, Nat.zero_le _, RowAt.nil _ _ _ _ _⟩
  · have hlm : len ≤ m := by rw [hm]; split <;> omega
    have hel : ∀ i, i < len → ∃ p : α × List Value, R.rel w w.heap.size p.1 p.2 ∧ ∀ j, j < R.size → w.cell? (a.add (i * R.size + j)) = p.2[j]? := by
      intro i hil
      obtain ⟨cs', hc, hd⟩ := hi i (by omega)
      rw [hs] at hc
      obtain ⟨_, hlen, hat⟩ := World.cells?_some hc
      obtain ⟨y, hy⟩ := h _ _ _ hd
      exact ⟨(y, cs'), hy, fun j hj => by rw [← add_of_add]; exact hat j hj⟩
    rcases Nat.eq_zero_or_pos len with hz | hz
    · subst hz
      exact ⟨[], some a, cap, rfl, Nat.zero_le _, hcm, RowAt.nil _ _ _ _ _⟩
    haveI : Inhabited (α × List Value) := ⟨Classical.choose (hel 0 hz)⟩
    obtain ⟨f, hf⟩ := choose_lt hel
    refine ⟨(List.range len).map fun i => (f i).1, some a, cap, by simp, by simpa using hl, hcm, (List.range len).map fun i => (f i).2, by simp, ?_, fun hp => ?_⟩
    · intro i y cs hy hc
      simp only [List.getElem?_map, Option.map_eq_some_iff] at hy hc
      obtain ⟨i1, h1, rfl⟩ := hy
      obtain ⟨i2, h2, rfl⟩ := hc
      rw [h1] at h2
      injection h2 with h2
      subst h2
      obtain ⟨h3, h4⟩ := List.getElem?_eq_some_iff.1 h1
      simp at h3 h4
      exact (hf i1 (by omega)).1
    · simp at hp
      obtain ⟨b, off, spot⟩ := a
      have hcell : ∀ i j, i < len → j < R.size → w.cell? ((⟨b, off, spot⟩ : Addr).add (i * R.size + j)) = (f i).2[j]? := fun i j hi' hj => (hf i hi').2 j hj
      have hlen2 : ∀ i, i < len → (f i).2.length = R.size := fun i hi' => R.len (hf i hi').1
      have hfirst : ∃ u, w.cell? ⟨b, off, spot⟩ = some u := by
        have := hcell 0 0 hp h0
        rw [List.getElem?_eq_getElem (by rw [hlen2 0 hp]; exact h0)] at this
        exact ⟨_, by simpa [Addr.add] using this⟩
      obtain ⟨u, hu⟩ := hfirst
      have hspot : spot = none := World.cell?_spot hu
      subst hspot
      obtain ⟨xs, t', fz, hh⟩ : ∃ xs t' fz, w.heap[b]? = some (.cells xs t' fz) := by
        unfold World.cell? at hu
        split at hu
        · rename_i c t' fz hh; exact ⟨c, t', fz, hh⟩
        · cases hu
      refine ⟨b, off, xs, t', fz, rfl, (Array.getElem?_eq_some_iff.1 hh).1, .inl (Array.getElem?_eq_some_iff.1 hh).1, hh, fun i j cs u' hi' hj' => ?_⟩
      simp only [List.getElem?_map, Option.map_eq_some_iff] at hi'
      obtain ⟨i1, h1, rfl⟩ := hi'
      obtain ⟨h3, h4⟩ := List.getElem?_eq_some_iff.1 h1
      simp at h3 h4
      subst h4
      have hjl : j < R.size := by rw [← hlen2 i h3]; exact (List.getElem?_eq_some_iff.1 hj').1
      have := hcell i j h3 hjl
      rw [add_plain, cell_of_row w b _ xs t' fz hh, hj', ← Nat.add_assoc] at this
      exact this
end
end Go.Proofs.Ytoklllbaihccnaa

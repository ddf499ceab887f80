/- fleuronref02: numbers that lie in variables. -/
import Derived.Test.YtnalbkjbidaojaaNumB
namespace Go.Proofs.Ytnalbkjbidaojaa
open Go.RowKit Nm

/-- variable nb holds a number -/
def NumV (W : World) (base nb : Nat) (x : Int) (N : Nat) : Prop := ∃ (b : Bool) (A : Option Addr) (d : List Int) (c : Nat), Blk W nb 89 #[.bool b, .slice A d.length c] ∧ W.ownsRow base 3 1 (.slice A d.length c) d.length (dints d) ∧ Ok b d ∧ sv b d = x ∧ d.length ≤ N
theorem own_lt {w : World} {base size n g : Nat} {t : TypeId} {v : Value} {xs : List Value} (h : w.ownsRow base t size v n xs) (hg : v.ownBlock = some g) : g < w.heap.size := by
  rcases h.2 with ⟨rfl, _⟩ | ⟨g', cap, cur, rfl, _, hh, _⟩
  · cases hg
  · injection hg with hg
    subst hg
    exact Blk.lt (t := t) (cs := cur) hh
theorem own_ne {w : World} {base size n g mb : Nat} {t t' : TypeId} {v : Value} {xs : List Value} {cs : Array Value} (h : w.ownsRow base t size v n xs) (hb : Blk w mb t' cs) (ht : t' ≠ t) (hg : v.ownBlock = some g) : g ≠ mb := by
  rcases h.2 with ⟨rfl, _⟩ | ⟨g', cap, cur, rfl, _, hh, _⟩
  · cases hg
  · injection hg with hg
    subst hg
    exact (Blk.ne_ hb (cs' := cur) (show Blk w _ t cur from hh) ht).symm
theorem own_set7 {w : World} {base size n mb i : Nat} {t t' : TypeId} {v u : Value} {xs : List Value} {cs : Array Value} (h : w.ownsRow base t size v n xs) (hb : Blk w mb t' cs) (ht : t' ≠ t) : (w.setCell ⟨mb, i, none⟩ u).ownsRow base t size v n xs :=
  own_keep h fun _ hg => Below.heap_setCell _ _ _ _ (own_ne h hb ht hg)
section
variable {W W' : World} {base nb mb N : Nat} {x : Int}
theorem NumV.keep (h : NumV W base nb x N) (hb : Below W.heap.size W W') : NumV W' base nb x N := by
  obtain ⟨b, A, d, c, hk, ho, h3⟩ := h
  exact ⟨b, A, d, c, hk.below hb hk.lt, own_keep ho fun g hg => hb.block g (own_lt ho hg), h3⟩
theorem NumV.set {cs : Array Value} (h : NumV W base nb x N) (hb : Blk W mb 89 cs) (hne : nb ≠ mb) (i : Nat) (u : Value) : NumV (W.setCell ⟨mb, i, none⟩ u) base nb x N := by
  obtain ⟨b, A, d, c, hk, ho, h3⟩ := h
  exact ⟨b, A, d, c, hk.far (p := ⟨mb, i, none⟩) hne u, own_set7 ho hb (by decide), h3⟩
theorem NumV.set2 {cs : Array Value} (h : NumV W base nb x N) (hb : Blk W mb 89 cs) (hne : nb ≠ mb) (u u2 : Value) : NumV ((W.setCell ⟨mb, 0, none⟩ u).setCell ⟨mb, 1, none⟩ u2) base nb x N :=
  (h.set hb hne 0 u).set (hb.set_ 0 u) hne 1 u2
theorem NumV.put {u0 u1 : Value} {b : Bool} {A : Option Addr} {d : List Int} {c : Nat} (hb : Blk W nb 89 #[u0, u1]) (ho : W.ownsRow base 3 1 (.slice A d.length c) d.length (dints d)) (hok : Ok b d) (hsv : sv b d = x) (hl : d.length ≤ N) :
    NumV ((W.setCell ⟨nb, 0, none⟩ (.bool b)).setCell ⟨nb, 1, none⟩ (.slice A d.length c)) base nb x N :=
  ⟨b, A, d, c, (hb.set_ 0 (.bool b)).set_ 1 (.slice A d.length c), own_set7 (own_set7 ho hb (by decide)) (hb.set_ 0 (.bool b)) (by decide), hok, hsv, hl⟩
theorem NumV.len {K : Nat} (h : NumV W base nb x N) (h1 : -pw K < x) (h2 : x < pw K) : NumV W base nb x K := by
  obtain ⟨b, A, d, c, hk, ho, hok, hsv, _⟩ := h
  refine ⟨b, A, d, c, hk, ho, hok, hsv, hok.len ?_⟩
  rw [hok.abs, hsv]
  omega
theorem NumV.more {K : Nat} (h : NumV W base nb x N) (hK : N ≤ K) : NumV W base nb x K := by
  obtain ⟨b, A, d, c, hk, ho, hok, hsv, hl⟩ := h
  exact ⟨b, A, d, c, hk, ho, hok, hsv, Nat.le_trans hl hK⟩
theorem NumV.drew (h : NumV W base nb x N) : NumV W.drew base nb x N := h.keep (Below.refl _ _).drew
theorem NumV.alloc (h : NumV W base nb x N) (o : Obj) : NumV (W.alloc o) base nb x N := h.keep ((Below.refl _ _).alloc (Nat.le_refl _) o)
end
theorem NumV.is {W : World} {base nb N : Nat} {x : Int} (h : NumV W base nb x N) : ∃ (b : Bool) (A : Option Addr) (d : List Int) (c : Nat), Blk W nb 89 #[.bool b, .slice A d.length c] ∧ NumIs W W.heap.size (.agg #[.bool b, .slice A d.length c]) x N ∧ Reads W W.heap.size 1 A d.length (dints d) ∧ Ok b d ∧ sv b d = x ∧ d.length ≤ N ∧ d.length ≤ c ∧ c ≤ maxLen := by
  obtain ⟨b, A, d, c, hk, ho, hok, hsv, hl⟩ := h
  obtain ⟨A', c', e', h5, h6⟩ := own_form ho
  injection e' with _ _ e'
  subst e'
  exact ⟨b, A, d, c, hk, ⟨b, A, d, c, rfl, Reads.of_own ho, hok, hsv, hl, h5, h6⟩, Reads.of_own ho, hok, hsv, hl, h5, h6⟩
end Go.Proofs.Ytnalbkjbidaojaa

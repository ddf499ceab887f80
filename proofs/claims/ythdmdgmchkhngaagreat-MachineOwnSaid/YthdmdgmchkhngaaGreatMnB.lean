/- The machine's points: its contract. -/
import Derived.Test.YthdmdgmchkhngaaGreatMnA
import Derived.Test.YthdmdgmchkhngaaGreatSeqs
namespace Go.Proofs.YthdmdgmchkhngaaGreat
open Go.RowKit Mc

/-- the first i of n are F's, the others are z -/
def mk {α : Type} (n i : Nat) (F : Nat → α) (z : α) : List α := (List.range n).map fun j => if j < i then F j else z
theorem mk_len {α : Type} (n i : Nat) (F : Nat → α) (z : α) : (mk n i F z).length = n := by simp [mk]
theorem mk_get {α : Type} {n i : Nat} {F : Nat → α} {z : α} {j : Nat} (h : j < n) : (mk n i F z)[j]? = some (if j < i then F j else z) := by
  unfold mk
  rw [List.getElem?_map, List.getElem?_range h]
  rfl
theorem mk_set {α : Type} {n i : Nat} {F : Nat → α} {z : α} (h : i < n) : (mk n i F z).set i (F i) = mk n (i + 1) F z := by
  refine List.ext_getElem? fun j => ?_
  rw [List.getElem?_set]
  rcases Nat.lt_or_ge j n with hj | hj
  · rw [mk_get hj, mk_get hj, mk_len]
    by_cases hij : i = j
    · subst hij; rw [if_pos rfl, if_pos h, if_pos (by omega)]
    · rw [if_neg hij]
      by_cases h2 : j < i
      · rw [if_pos h2, if_pos (by omega)]
      · rw [if_neg h2, if_neg (by omega)]
  · rw [if_neg (by omega), List.getElem?_eq_none (by rw [mk_len]; omega), List.getElem?_eq_none (by rw [mk_len]; omega)]
theorem mk_zero {α : Type} (n : Nat) (F : Nat → α) (z : α) : mk n 0 F z = List.replicate n z := by
  refine List.ext_getElem? fun j => ?_
  rcases Nat.lt_or_ge j n with hj | hj
  · rw [mk_get hj, if_neg (by omega), List.getElem?_replicate, if_pos hj]
  · rw [List.getElem?_eq_none (by rw [mk_len]; omega), List.getElem?_eq_none (by simpa using hj)]
theorem mk_full {α : Type} (n : Nat) (F : Nat → α) (z : α) : mk n n F z = (List.range n).map F := by
  unfold mk
  refine List.map_congr_left fun j hj => ?_
  rw [if_pos (List.mem_range.1 hj)]
/-- nothing new there -/
theorem mk_keep {α : Type} {n i : Nat} {F : Nat → α} {z : α} (h : i < n → F i = z) : mk n i F z = mk n (i + 1) F z := by
  refine List.ext_getElem? fun j => ?_
  rcases Nat.lt_or_ge j n with hj | hj
  · rw [mk_get hj, mk_get hj]
    by_cases hij : j = i
    · subst hij; rw [if_neg (by omega), if_pos (by omega), h hj]
    · by_cases h2 : j < i
      · rw [if_pos h2, if_pos (by omega)]
      · rw [if_neg h2, if_neg (by omega)]
  · rw [List.getElem?_eq_none (by rw [mk_len]; omega), List.getElem?_eq_none (by rw [mk_len]; omega)]

def Mc.oF (z : Zn) (j : Nat) : Int × Int := k2 ((z.org[j]?).getD (z.cur.getD j (0, 0)))
def Mc.cF (z : Zn) (j : Nat) : Int × Int := k2 (z.cur.getD j (0, 0))
def Mc.tF (z : Zn) (j : Nat) : Int := (z.touch.getD j 0) % 4
theorem range_cF (z : Zn) : (List.range z.cur.length).map (cF z) = z.cur.map k2 := by
  refine List.ext_getElem? fun j => ?_
  rw [List.getElem?_map, List.getElem?_map]
  rcases Nat.lt_or_ge j z.cur.length with hj | hj
  · rw [List.getElem?_range hj, List.getElem?_eq_getElem hj]
    simp only [Option.map_some, cF, List.getD_eq_getElem?_getD, List.getElem?_eq_getElem hj, Option.getD_some]
  · rw [List.getElem?_eq_none (by simpa using hj), List.getElem?_eq_none hj]; rfl
/-- a zone lies: its rows are read below block B -/
structure ZnAt (W : World) (B : Nat) (z : Zn) (oA : Option Addr) (cA : Option Addr) (tA : Option Addr) (eA : Option Addr) : Prop where
  org : Reads W B 2 oA z.org.length (pts z.org)
  cur : Reads W B 2 cA z.cur.length (pts z.cur)
  touch : Reads W B 1 tA z.touch.length (ints z.touch)
  ends : Reads W B 1 eA z.ends.length (ints z.ends)
/-- a zone of which machines are made -/
structure ZnOk (z : Zn) : Prop where
  org : z.org.length ≤ 1000000
  cur : z.cur.length ≤ 1000000
  touch : z.touch.length ≤ 1000000
  ends : z.ends.length ≤ 1000000
theorem ZnAt.keep {W W' : World} {B : Nat} {z : Zn} {oA cA tA eA : Option Addr} (h : ZnAt W B z oA cA tA eA) (hk : ∀ p : Addr, p.block < B → W'.cell? p = W.cell? p) : ZnAt W' B z oA cA tA eA :=
  ⟨h.org.keep hk, h.cur.keep hk, h.touch.keep hk, h.ends.keep hk⟩
theorem Reads.at_ {w : World} {B size : Nat} {A : Option Addr} {n : Nat} {xs : List Value} (h : Reads w B size A n xs) (hn : 0 < n) : ∃ b off, A = some ⟨b, off, none⟩ ∧ b < B ∧ ∀ j u, xs[j]? = some u → w.cell? ⟨b, off + j, none⟩ = some u := h.2 hn
theorem bits_and3 (n : Int) : bits .and .i64 n 3 = n % 4 := by
  have h : (BitVec.ofInt 64 3).toNat = 2 ^ 2 - 1 := by decide
  have key : (BitVec.ofInt 64 n &&& BitVec.ofInt 64 3).toNat = (n % ((2 ^ 64 : Nat) : Int)).toNat % 2 ^ 2 := by
    rw [BitVec.toNat_and, BitVec.toNat_ofInt, h, Nat.and_two_pow_sub_one_eq_mod]
  show IntKind.i64.wrap ((BitVec.ofInt 64 n &&& BitVec.ofInt 64 3).toNat : Nat) = n % 4
  rw [key, IntKind.wrap_i64]
  omega
end Go.Proofs.YthdmdgmchkhngaaGreat

/- Parts of the proof, joined: MnD MnE. -/
import Derived.Test.YtnhebmgibiomnaaGreatPc15
set_option linter.unusedVariables false
set_option linter.unusedSimpArgs false
namespace Go.Proofs.YtnhebmgibiomnaaGreat
open Go.RowKit Mc
def Onew (B : Nat) (W : World) (k : Nat) : Prop := B ≤ k ∧ k < W.heap.size
def FrameAt (B : Nat) (W : World) (v : Value) (ml : List (Int × Int)) : Prop :=
  ∃ fb code, v = .slice (some ⟨fb, 0, none⟩) 1 1 ∧ Blk W fb 205 #[code, .int .i64 0, .int .i64 0] ∧ B ≤ fb ∧ W.ownsRow B 96 2 code ml.length (pts ml)
theorem FrameAt.grow {B : Nat} {W W' : World} {v : Value} {ml : List (Int × Int)} (h : FrameAt B W v ml) (hg : Grow W W') : FrameAt B W' v ml := by
  obtain ⟨fb, code, e, h1, h2, h3⟩ := h
  exact ⟨fb, code, e, hg.blk h1 (fun x => x), h2, owns_grow h3 hg⟩
theorem deeds_grow {B db : Nat} {W W' : World} (h : Deeds W (Onew B W) db) (hg : Grow W W') : Deeds W' (Onew B W') db := by
  have hz := hg.size
  have h0 := h.1
  refine h.keep (hg.block db h0.2 (fun x => x)) (fun g t cs hO _ _ => hg.block g hO.2 (fun x => x)) (fun k hk => ⟨hk.1, by have := hk.2; omega⟩)
theorem DI.grow {w0 W : World} {n : Nat} (h : DI w0 n W) : Grow w0 W := by
  obtain ⟨_, _, _, h3⟩ := h
  exact Fr.of_below h3 (fun _ hk _ => hk)
theorem DI.deeds {w0 W : World} (h : DI w0 39 W) {B : Nat} (hB : B ≤ w0.heap.size) : Deeds W (Onew B W) w0.heap.size := by
  have hlt := h.lt
  obtain ⟨bs, h1, h2, h3⟩ := h
  exact ⟨⟨hB, hlt⟩, bs, 39, h1, fun i a b => (h2 i a b).keep rfl (fun _ _ _ h => h) (fun k hk => ⟨by omega, hk.2⟩)⟩
theorem info_codes : (Tryz.prog.info? 24).map (fun i => (i.zero, i.size, i.bytes)) = some (some (.slice none 0 0), 1, 24) := by kernel_rfl
theorem made_nils (n : Nat) : madeCells #[Value.slice none 0 0] n = (List.replicate n (Value.slice none 0 0)).toArray := by
  unfold madeCells
  apply Array.toList_inj.1
  simp only [Array.toList_map, Array.toList_range]
  rw [List.eq_replicate_iff]
  exact ⟨by simp, by intro b hb; simp at hb; obtain ⟨a, ha, rfl⟩ := hb; rw [show a % 1 = 0 by omega]; rfl⟩
theorem make_codes (n : Nat) (hn : n ≤ 1000000) (w : World) : (Instr.makeSlice 23 (.int .i64 (n : Int)) (.int .i64 (n : Int))).run Tryz.prog w = .ok (.slice (some ⟨w.heap.size, 0, none⟩) n n) (w.alloc (.cells (List.replicate n (Value.slice none 0 0)).toArray 24)) := by
  obtain ⟨i, hi, hz0, hz1, hz2⟩ := info_m info_codes
  have := make_rowN (P := Tryz.prog) 23 24 i _ Tryz.underlying23 hi hz0 n (by rw [hz2]; omega) (by omega) w
  rw [hz1, Nat.mul_one, show (Value.slice none 0 0).cells = #[.slice none 0 0] from rfl, made_nils] at this
  exact this
def NwV (pb B : Nat) (fA : Option Addr) (fn fc : Nat) (mA : Option Addr) (ml : List (Int × Int)) (mc : Nat) (cA : Option Addr) (cn cc : Nat) (sz : Int) (i : Nat) (v : Value) (W : World) : Prop :=
  match i with
  | 0 => v = .pointer (some ⟨pb, 0, none⟩)
  | 1 => v = .slice fA fn fc
  | 2 => v = .int .i64 fn
  | 3 => W.ownsRow B 24 1 v fn (List.replicate fn (.slice none 0 0))
  | 4 => v = .pointer (some ⟨pb, 1, none⟩)
  | 5 => v = .slice mA ml.length mc
  | 6 => W.ownsRow B 96 2 v ml.length (pts ml)
  | 7 => ∃ code, v = .agg #[code, .int .i64 0, .int .i64 0] ∧ W.ownsRow B 96 2 code ml.length (pts ml)
  | 8 => FrameAt B W v ml
  | 9 => v = .pointer (some ⟨pb, 2, none⟩)
  | 10 => v = .slice cA cn cc
  | 11 => v = .int .i64 cn
  | 12 => W.ownsRow B 3 1 v cn (ints (List.replicate cn 0))
  | 13 => v = .pointer (some ⟨pb, 3, none⟩)
  | 14 => v = .int .i64 sz
  | 15 => v = .int .i64 (k32 sz)
  | 16 => ∃ db, v = .map (some db) ∧ Deeds W (Onew B W) db
  | 17 => ∃ fu fr cv db, v = .agg #[fu, fr, .slice none 0 0, .slice none 0 0, .slice none 0 0, .slice none 0 0, .slice none 0 0, cv, .int .i64 0, .int .i64 0, .int .i64 0, .int .i64 0, .int .i64 0, .int .i64 0, .int .i64 0, .int .i64 0, .int .i64 0, .int .i64 0, .int .i64 0, .int .i64 0, .int .i64 0, .int .i64 0, .int .i64 0, .int .i64 0, .int .i64 0, .int .i64 0, .int .i64 0, .int .i64 0, .int .i64 0, .int .i64 0, .int .i64 0, .int .i64 0, .int .i64 0, .int .i64 0, .int .i64 0, .int .i64 0, .int .i64 0, .int .i64 0, .int .i64 0, .int .i64 0, .slice none 0 0, .int .i64 (k32 sz), .int .i64 0, .int .i64 0, .int .i64 1, .int .i64 0, .int .i64 0, .bool false, .int .i64 0, .map (some db)] ∧ W.ownsRow B 24 1 fu fn (List.replicate fn (.slice none 0 0)) ∧ FrameAt B W fr ml ∧ W.ownsRow B 3 1 cv cn (ints (List.replicate cn 0)) ∧ Deeds W (Onew B W) db
  | 18 => ∃ mb fu fr cv db, v = .pointer (some ⟨mb, 0, none⟩) ∧ B ≤ mb ∧ Blk W mb 212 #[fu, fr, .slice none 0 0, .slice none 0 0, .slice none 0 0, .slice none 0 0, .slice none 0 0, cv, .int .i64 0, .int .i64 0, .int .i64 0, .int .i64 0, .int .i64 0, .int .i64 0, .int .i64 0, .int .i64 0, .int .i64 0, .int .i64 0, .int .i64 0, .int .i64 0, .int .i64 0, .int .i64 0, .int .i64 0, .int .i64 0, .int .i64 0, .int .i64 0, .int .i64 0, .int .i64 0, .int .i64 0, .int .i64 0, .int .i64 0, .int .i64 0, .int .i64 0, .int .i64 0, .int .i64 0, .int .i64 0, .int .i64 0, .int .i64 0, .int .i64 0, .int .i64 0, .slice none 0 0, .int .i64 (k32 sz), .int .i64 0, .int .i64 0, .int .i64 1, .int .i64 0, .int .i64 0, .bool false, .int .i64 0, .map (some db)] ∧ W.ownsRow B 24 1 fu fn (List.replicate fn (.slice none 0 0)) ∧ FrameAt B W fr ml ∧ W.ownsRow B 3 1 cv cn (ints (List.replicate cn 0)) ∧ Deeds W (Onew B W) db
  | _ => True
theorem NwV.grow {pb B : Nat} {fA : Option Addr} {fn fc : Nat} {mA : Option Addr} {ml : List (Int × Int)} {mc : Nat} {cA : Option Addr} {cn cc : Nat} {sz : Int} {i : Nat} {v : Value} {W W' : World} (h : NwV pb B fA fn fc mA ml mc cA cn cc sz i v W) (hg : Grow W W') : NwV pb B fA fn fc mA ml mc cA cn cc sz i v W' := by
  match i with
  | 0 | 1 | 2 | 4 | 5 | 9 | 10 | 11 | 13 | 14 | 15 => exact h
  | 3 | 6 | 12 => exact owns_grow h hg
  | 7 => obtain ⟨code, e, h1⟩ := h; exact ⟨code, e, owns_grow h1 hg⟩
  | 8 => exact FrameAt.grow h hg
  | 16 => obtain ⟨db, e, h1⟩ := h; exact ⟨db, e, deeds_grow h1 hg⟩
  | 17 => obtain ⟨fu, fr, cv, db, e, h1, h2, h3, h4⟩ := h; exact ⟨fu, fr, cv, db, e, owns_grow h1 hg, h2.grow hg, owns_grow h3 hg, deeds_grow h4 hg⟩
  | 18 => obtain ⟨mb, fu, fr, cv, db, e, hB, hb, h1, h2, h3, h4⟩ := h; exact ⟨mb, fu, fr, cv, db, e, hB, hg.blk hb (fun x => x), owns_grow h1 hg, h2.grow hg, owns_grow h3 hg, deeds_grow h4 hg⟩
  | i + 19 => trivial
def st0 (fn : Nat) (ml : List (Int × Int)) (cn : Nat) (sz : Int) : St :=
  { funcs := List.replicate fn [], frames := [⟨ml, 0, 0⟩], org := [], cur := [], touch := [], ends := [], cont := [], cvt := List.replicate cn 0, store := List.replicate 32 0, stack := [], size := k32 sz, look := 0, move := 0, mode := 1, steps := 0, peak := 0, ended := false, err := 0 }
theorem codes_nil {W : World} {O : Nat → Prop} : ∀ n, Codes W O (List.replicate n (.slice none 0 0)) (List.replicate n [])
  | 0 => trivial
  | n + 1 => ⟨⟨owns_nil _ _ _ _, fun g h => by simp [Value.ownBlock] at h⟩, codes_nil n⟩
theorem row_of {W : World} {B size n : Nat} {t : TypeId} {v : Value} {xs : List Value} (h : W.ownsRow B t size v n xs) : Row W (Onew B W) t size v n xs :=
  ⟨owns_mono h (Nat.zero_le _), fun g hg => h.lt g hg⟩
theorem row_nil {W : World} {O : Nat → Prop} {size : Nat} {t : TypeId} : Row W O t size (.slice none 0 0) 0 [] := ⟨owns_nil _ _ _ _, fun g h => by simp [Value.ownBlock] at h⟩
theorem MaL.start {W : World} {B mb fn cn : Nat} {ml : List (Int × Int)} {sz : Int} {fu fr cv : Value} {db : Nat} (hB : B ≤ mb) (hb : Blk W mb 212 #[fu, fr, .slice none 0 0, .slice none 0 0, .slice none 0 0, .slice none 0 0, .slice none 0 0, cv, .int .i64 0, .int .i64 0, .int .i64 0, .int .i64 0, .int .i64 0, .int .i64 0, .int .i64 0, .int .i64 0, .int .i64 0, .int .i64 0, .int .i64 0, .int .i64 0, .int .i64 0, .int .i64 0, .int .i64 0, .int .i64 0, .int .i64 0, .int .i64 0, .int .i64 0, .int .i64 0, .int .i64 0, .int .i64 0, .int .i64 0, .int .i64 0, .int .i64 0, .int .i64 0, .int .i64 0, .int .i64 0, .int .i64 0, .int .i64 0, .int .i64 0, .int .i64 0, .slice none 0 0, .int .i64 (k32 sz), .int .i64 0, .int .i64 0, .int .i64 1, .int .i64 0, .int .i64 0, .bool false, .int .i64 0, .map (some db)])
    (h1 : W.ownsRow B 24 1 fu fn (List.replicate fn (.slice none 0 0))) (h2 : FrameAt B W fr ml) (h3 : W.ownsRow B 3 1 cv cn (ints (List.replicate cn 0))) (h4 : Deeds W (Onew B W) db) (hfn : fn ≤ 1000000) (hcn : cn ≤ 1000000) (hml : ml.length ≤ 1000000) :
    ∃ L, L.fu = fu ∧ L.cv = cv ∧ MaL W mb (Onew B W) L (st0 fn ml cn sz) := by
  obtain ⟨fb, code, rfl, k1, k2, k3⟩ := h2
  refine ⟨⟨_, fu, List.replicate fn (.slice none 0 0), .slice (some ⟨fb, 0, none⟩) 1 1, [code], .slice none 0 0, .slice none 0 0, .slice none 0 0, .slice none 0 0, .slice none 0 0, cv, .slice none 0 0, db⟩, rfl, rfl, ⟨⟨hB, hb.lt⟩, fun k hk => hk.2, hb, ?_, ?_, ?_, row_nil, row_nil, row_nil, row_nil, row_nil, ?_, row_nil, codes_nil fn, ⟨row_of k3, trivial⟩, apart_nil, apart_nil, apart_nil, apart_nil, apart_nil, apart_nil, apart_nil.symm, h4, ?_⟩⟩
  · refine ⟨rfl, rfl, fun i x hx => ?_, rfl, rfl, rfl, rfl, rfl, rfl, rfl, rfl, rfl, rfl, rfl, rfl, rfl, rfl, rfl, rfl, rfl, rfl⟩
    have hi : i < 32 := by have := (List.getElem?_eq_some_iff.1 hx).1; simpa [st0] using this
    have hx0 : x = 0 := by
      simp only [st0, List.getElem?_replicate] at hx
      rw [if_pos hi] at hx
      exact (Option.some.inj hx).symm
    subst hx0
    simp only
    clear hx
    match i, hi with
    | 0, _ => rfl
    | 1, _ => rfl
    | 2, _ => rfl
    | 3, _ => rfl
    | 4, _ => rfl
    | 5, _ => rfl
    | 6, _ => rfl
    | 7, _ => rfl
    | 8, _ => rfl
    | 9, _ => rfl
    | 10, _ => rfl
    | 11, _ => rfl
    | 12, _ => rfl
    | 13, _ => rfl
    | 14, _ => rfl
    | 15, _ => rfl
    | 16, _ => rfl
    | 17, _ => rfl
    | 18, _ => rfl
    | 19, _ => rfl
    | 20, _ => rfl
    | 21, _ => rfl
    | 22, _ => rfl
    | 23, _ => rfl
    | 24, _ => rfl
    | 25, _ => rfl
    | 26, _ => rfl
    | 27, _ => rfl
    | 28, _ => rfl
    | 29, _ => rfl
    | 30, _ => rfl
    | 31, _ => rfl
    | n + 32, h => omega
  · simp only [st0, List.length_replicate]; exact row_of h1
  · refine ⟨⟨by simp [st0, frC], .inr ⟨fb, 1, _, rfl, Nat.zero_le _, k1, Nat.le_refl _, by unfold maxLen; omega, rfl, by simp [st0, frC]⟩⟩, fun g hg => ?_⟩
    simp only [Value.ownBlock, Option.some.injEq] at hg
    subst hg
    exact ⟨k2, k1.lt⟩
  · simp only [st0, List.length_replicate]; exact row_of h3
  · have z0 : K32 0 := by unfold K32; omega
    refine ⟨by simp [st0], by simp [st0], fun x hx => ?_, fun x hx => ?_, by simp [st0], by simp [st0], by simp [st0], rfl, by simp [st0], rfl, k32_in sz, by simp [st0], by simp [st0], by simp [st0], by simp [st0], fun f hf => ?_, by simp [st0], fun c hc => ?_, by simpa [st0] using hfn, by simp [st0], by simp [st0], by simp [st0], by simpa [st0] using hcn, by simp [st0]⟩
    · rw [List.eq_of_mem_replicate hx]; exact z0
    · rw [List.eq_of_mem_replicate hx]; exact z0
    · simp only [st0, List.mem_singleton] at hf; subst hf; exact ⟨Nat.zero_le _, Nat.zero_le _, hml⟩
    · rw [List.eq_of_mem_replicate hc]; simp
structure PgAt (W : World) (B : Nat) (p : Pg) (fA mA cA : Option Addr) : Prop where
  fl : ∃ cs : List Value, Reads W B 1 fA p.funcs.length cs ∧ ∀ (i : Nat) code, p.funcs[i]? = some code → ∃ A c, cs[i]? = some (.slice A code.length c) ∧ Reads W B 2 A code.length (pts code)
  main : Reads W B 2 mA p.main.length (pts p.main)
  cvt : Reads W B 1 cA p.cvt.length (ints p.cvt)
structure PgOk (p : Pg) : Prop where
  fl : p.funcs.length ≤ 1000000
  fc : ∀ c ∈ p.funcs, c.length ≤ 1000000
  main : p.main.length ≤ 1000000
  cvt : p.cvt.length ≤ 1000000
theorem PgAt.keep {W W' : World} {B : Nat} {p : Pg} {fA mA cA : Option Addr} (h : PgAt W B p fA mA cA) (hk : ∀ q : Addr, q.block < B → W'.cell? q = W.cell? q) : PgAt W' B p fA mA cA := by
  obtain ⟨⟨cs, h1, h2⟩, h3, h4⟩ := h
  exact ⟨⟨cs, h1.keep hk, fun i code hc => by obtain ⟨A, c, a, b⟩ := h2 i code hc; exact ⟨A, c, a, b.keep hk⟩⟩, h3.keep hk, h4.keep hk⟩
def NewPost (w : World) (p : Pg) (z : Zn) (e : Ending) (w' : World) : Prop :=
  ∃ mb O L, e = .returned (.pointer (some ⟨mb, 0, none⟩)) ∧ MaL w' mb O L (begin_ p z) ∧ (∀ k, O k → w.heap.size ≤ k) ∧ Below w.heap.size w w'
def stF (p : Pg) (k : Nat) : St := { st0 p.funcs.length p.main p.cvt.length p.size with funcs := mk p.funcs.length k (fun j => p.funcs.getD j []) [] }
theorem stF_len (p : Pg) (k : Nat) : (stF p k).funcs.length = p.funcs.length := mk_len _ _ _ _
theorem stF_zero (p : Pg) : stF p 0 = st0 p.funcs.length p.main p.cvt.length p.size := by unfold stF; rw [mk_zero]; rfl
theorem stF_set {p : Pg} {k : Nat} {code : List (Int × Int)} (h : k < p.funcs.length) (hc : p.funcs[k]? = some code) : { stF p k with funcs := (stF p k).funcs.set k code } = stF p (k + 1) := by
  have := mk_set (n := p.funcs.length) (i := k) (F := fun j => p.funcs.getD j []) (z := []) h
  rw [show p.funcs.getD k [] = code from getD_of hc] at this
  unfold stF
  simp only
  rw [this]
def stC (p : Pg) (k : Nat) : St := { stF p p.funcs.length with cvt := mk p.cvt.length k (fun j => k32 (p.cvt.getD j 0)) 0 }
theorem stC_len (p : Pg) (k : Nat) : (stC p k).cvt.length = p.cvt.length := mk_len _ _ _ _
theorem stC_zero (p : Pg) : stC p 0 = stF p p.funcs.length := by unfold stC; rw [mk_zero]; rfl
theorem stC_set {p : Pg} {k : Nat} {x : Int} (h : k < p.cvt.length) (hx : p.cvt[k]? = some x) : { stC p k with cvt := (stC p k).cvt.set k (k32 x) } = stC p (k + 1) := by
  have := mk_set (n := p.cvt.length) (i := k) (F := fun j => k32 (p.cvt.getD j 0)) (z := 0) h
  rw [show p.cvt.getD k 0 = x from getD_of hx] at this
  unfold stC
  simp only
  rw [this]
theorem range_getD {α : Type} (l : List α) (d : α) : (List.range l.length).map (fun j => l.getD j d) = l := by
  refine List.ext_getElem? fun j => ?_
  rw [List.getElem?_map]
  rcases Nat.lt_or_ge j l.length with hj | hj
  · rw [List.getElem?_range hj, List.getElem?_eq_getElem hj]
    simp only [Option.map_some, List.getD_eq_getElem?_getD, List.getElem?_eq_getElem hj, Option.getD_some]
  · rw [List.getElem?_eq_none (by simpa using hj), List.getElem?_eq_none hj]; rfl
theorem stC_end (p : Pg) (z : Zn) : { stC p p.cvt.length with org := (List.range z.cur.length).map (oF z), cur := z.cur.map k2, touch := (List.range z.cur.length).map (tF z), ends := z.ends, cont := conts z.cur.length (-1) z.ends } = begin_ p z := by
  unfold stC stF begin_
  rw [mk_full, mk_full]
  have e1 : (List.range p.cvt.length).map (fun j => k32 (p.cvt.getD j 0)) = p.cvt.map k32 := by
    have := congrArg (List.map k32) (range_getD p.cvt 0)
    rw [List.map_map] at this
    exact this
  rw [e1, range_getD]
  rfl
def NInvF (w : World) (p : Pg) (z : Zn) (mb B1 : Nat) (fA : Option Addr) (fc : Nat) (mA : Option Addr) (mc : Nat) (cA : Option Addr) (cc : Nat) (oA : Option Addr) (oc : Nat) (uA : Option Addr) (uc : Nat) (tA : Option Addr) (tc : Nat) (eA : Option Addr) (ec : Nat) (fu cv : Value) (i : Value) (wr : World) : Prop :=
  ∃ (k : Nat) (L : Lay), k ≤ p.funcs.length ∧ i = .int .i64 k ∧ L.fu = fu ∧ L.cv = cv ∧ MaL wr mb (Onew B1 wr) L (stF p k) ∧
    Blk wr w.heap.size 26 #[.slice fA p.funcs.length fc, .slice mA p.main.length mc, .slice cA p.cvt.length cc, .int .i64 p.size] ∧ Blk wr (w.heap.size + 1) 30 #[.slice oA z.org.length oc, .slice uA z.cur.length uc, .slice tA z.touch.length tc, .slice eA z.ends.length ec] ∧ Grow w wr ∧ B1 ≤ wr.heap.size
def NInvC (w : World) (p : Pg) (z : Zn) (mb B1 : Nat) (fA : Option Addr) (fc : Nat) (mA : Option Addr) (mc : Nat) (cA : Option Addr) (cc : Nat) (oA : Option Addr) (oc : Nat) (uA : Option Addr) (uc : Nat) (tA : Option Addr) (tc : Nat) (eA : Option Addr) (ec : Nat) (cv : Value) (i : Value) (wr : World) : Prop :=
  ∃ (k : Nat) (L : Lay), k ≤ p.cvt.length ∧ i = .int .i64 k ∧ L.cv = cv ∧ MaL wr mb (Onew B1 wr) L (stC p k) ∧
    Blk wr w.heap.size 26 #[.slice fA p.funcs.length fc, .slice mA p.main.length mc, .slice cA p.cvt.length cc, .int .i64 p.size] ∧ Blk wr (w.heap.size + 1) 30 #[.slice oA z.org.length oc, .slice uA z.cur.length uc, .slice tA z.touch.length tc, .slice eA z.ends.length ec] ∧ Grow w wr ∧ B1 ≤ wr.heap.size
theorem MaL.fuAt {w : World} {mb : Nat} {O : Nat → Prop} {L : Lay} {s : St} (h : MaL w mb O L s) {g n c : Nat} (hv : L.fu = .slice (some ⟨g, 0, none⟩) n c) {i : Nat} (hi : i < s.funcs.length) :
    (∃ u, w.cell? ⟨g, i, none⟩ = some u) ∧ w.frozen? ⟨g, i, none⟩ = false ∧ g < w.heap.size := by
  obtain ⟨g', c', e, _, _, _, hl, hc, hf⟩ := h.fu.at_ (by omega)
  rw [hv] at e
  injection e with e e2 e3
  clear e2 e3
  injection e with e
  injection e with e e2
  subst e
  have hlen := h.fuc.len
  exact ⟨⟨_, hc i _ (List.getElem?_eq_getElem (by omega))⟩, hf _, hl⟩
set_option maxRecDepth 100000 in
set_option maxHeartbeats 8000000 in
theorem new_any (w : World) (p : Pg) (z : Zn) (hp : PgOk p) (hz : ZnOk z) (fA mA cA oA tA eA uA : Option Addr) (fc mc cc oc tc ec uc : Nat) (hpa : PgAt w w.heap.size p fA mA cA) (hza : ZnAt w w.heap.size z oA uA tA eA) :
    Calls Tryz.prog 70 #[.agg #[.slice fA p.funcs.length fc, .slice mA p.main.length mc, .slice cA p.cvt.length cc, .int .i64 p.size], .agg #[.slice oA z.org.length oc, .slice uA z.cur.length uc, .slice tA z.touch.length tc, .slice eA z.ends.length ec]] w (NewPost w p z) := by
  have HPK := Lib.hid hp
  have HZK := Lib.hid hz
  obtain ⟨n1, n2, n3, n4⟩ := hp
  have HN2 := Lib.hid n2
  clear n2
  have HMF := Lib.hid (make_codes p.funcs.length n1)
  have HMC := Lib.hid (make_ints p.cvt.length n4)
  obtain ⟨X, hX⟩ : ∃ X, X = (w.alloc (.cells #[.slice fA p.funcs.length fc, .slice mA p.main.length mc, .slice cA p.cvt.length cc, .int .i64 p.size] 26)).alloc (.cells #[.slice oA z.org.length oc, .slice uA z.cur.length uc, .slice tA z.touch.length tc, .slice eA z.ends.length ec] 30) := ⟨_, rfl⟩
  have hXz : X.heap.size = w.heap.size + 1 + 1 := by rw [hX]; simp
  have hXG : Grow w X := by rw [hX]; exact ((Fr.refl _ w).alloc _).alloc _
  have hbp : Blk X w.heap.size 26 #[.slice fA p.funcs.length fc, .slice mA p.main.length mc, .slice cA p.cvt.length cc, .int .i64 p.size] := by rw [hX]; exact (Blk.new _ _ _).alloc _
  have hbz : Blk X (w.heap.size + 1) 30 #[.slice oA z.org.length oc, .slice uA z.cur.length uc, .slice tA z.touch.length tc, .slice eA z.ends.length ec] := by rw [hX]; exact Blk.new_at _ _ _ (by simp)
  have HXG := Lib.hid hXG
  have HBP := Lib.hid hbp
  have HBZ := Lib.hid hbz
  have HPA := Lib.hid (hpa.keep (W' := X) fun q hq => hXG.cell hq (fun x => x))
  have HZA := Lib.hid (hza.keep (W' := X) fun q hq => hXG.cell hq (fun x => x))
  have HX := Lib.hid hX
  have HPA0 := Lib.hid hpa
  have HZA0 := Lib.hid hza
  clear hX hXG hbp hbz hpa hza hz
  go_enter Tryz.func70, Tryz.ntmps70
  go_wp2_with fail
  rw [← HX.out]
  refine wp_region_conc (NwV w.heap.size X.heap.size fA p.funcs.length fc mA p.main mc cA p.cvt.length cc p.size) (fun W => Grow X W) Grow (by as_aux_lemma => kernel_rfl) (by as_aux_lemma => kernel_rfl) 19 rfl ?_ ?_ ?_ ?_
  · intro i v W W' hv hr
    exact hv.grow hr
  · exact (Fr.refl _ _).drew
  · intro j ev val W hj hG hev hd
    have _e2 : ev (.tmp 2) = .pointer (some ⟨w.heap.size, 0, none⟩) := hev.other 2 (by kernel_rfl)
    have _ec := hev.const
    have _ef := hev.func
    have hbp := hG.blk HBP.out (fun x => x)
    have z0 := hbp.cell 0
    have z1 := hbp.cell 1
    have z2 := hbp.cell 2
    have z3 := hbp.cell 3
    simp only [List.getElem?_toArray, List.getElem?_cons_zero, List.getElem?_cons_succ] at z0 z1 z2 z3
    have hzl := hbp.lt
    have HGG := Lib.hid hG
    have HMR := Lib.hid HPA.out.main
    have HXZ := Lib.hid hXz
    clear hG hbp hXz
    match j, hj with
    | 0, _ =>
      refine ⟨_, rfl, rfl, ?_⟩; unfold yields; go_simp
      exact ⟨rfl, HGG.out, Fr.refl _ _⟩
    | 1, _ =>
      have d0 := hd 0 (by kernel_rfl); have x0 := hev.dep 0 10 (by kernel_rfl) (by kernel_rfl); simp only [NwV] at d0
      rw [d0] at x0
      refine ⟨_, rfl, rfl, ?_⟩; unfold yields; go_simp
      exact ⟨rfl, HGG.out, Fr.refl _ _⟩
    | 2, _ =>
      have d1 := hd 1 (by kernel_rfl); have x1 := hev.dep 1 11 (by kernel_rfl) (by kernel_rfl); simp only [NwV] at d1
      rw [d1] at x1
      refine ⟨_, rfl, rfl, ?_⟩; unfold yields; go_simp
      exact ⟨rfl, HGG.out, Fr.refl _ _⟩
    | 3, _ =>
      have d2 := hd 2 (by kernel_rfl); have x2 := hev.dep 2 12 (by kernel_rfl) (by kernel_rfl); simp only [NwV] at d2
      rw [d2] at x2
      have hmk := HMF.out W
      refine ⟨_, rfl, rfl, ?_⟩; unfold yields; go_simp
      exact ⟨owns_made (by simp) (by have := HGG.out.size; have := HXZ.out; omega) (by unfold maxLen; omega), HGG.out.alloc _, (Fr.refl _ _).alloc _⟩
    | 4, _ =>
      refine ⟨_, rfl, rfl, ?_⟩; unfold yields; go_simp
      exact ⟨rfl, HGG.out, Fr.refl _ _⟩
    | 5, _ =>
      have d4 := hd 4 (by kernel_rfl); have x4 := hev.dep 4 14 (by kernel_rfl) (by kernel_rfl); simp only [NwV] at d4
      rw [d4] at x4
      refine ⟨_, rfl, rfl, ?_⟩; unfold yields; go_simp
      exact ⟨rfl, HGG.out, Fr.refl _ _⟩
    | 6, _ =>
      have d5 := hd 5 (by kernel_rfl); have x5 := hev.dep 5 15 (by kernel_rfl) (by kernel_rfl); simp only [NwV] at d5
      rw [d5] at x5
      have HRE := Lib.hid (HMR.out.keep fun p hp => HGG.out.cell (by have := HXZ.out; omega) (fun x => x))
      refine ⟨_, rfl, rfl, ?_⟩; unfold yields; go_simp
      refine (clone_ins W mA _ mc _ _ HRE.out (pts_one _) (by omega)).mono ?_
      rintro e w5 ⟨v5, rfl, ho5, hg5⟩
      exact ⟨_, rfl, owns_mono ho5 (by have := HGG.out.size; have := HXZ.out; omega), HGG.out.trans hg5, hg5⟩
    | 7, _ =>
      have d6 := hd 6 (by kernel_rfl); have x6 := hev.dep 6 16 (by kernel_rfl) (by kernel_rfl); simp only [NwV] at d6
      obtain ⟨A1, c1, hv1⟩ : ∃ A c, val 6 = .slice A _ c := by obtain ⟨A, c, e, _⟩ := owns_form d6; exact ⟨A, c, e⟩
      rw [hv1] at x6 d6
      have H6 := Lib.hid d6
      clear d6
      refine ⟨_, rfl, rfl, ?_⟩; unfold yields; go_simp
      exact ⟨⟨_, rfl, H6.out⟩, HGG.out, Fr.refl _ _⟩
    | 8, _ =>
      have d7 := hd 7 (by kernel_rfl); have x7 := hev.dep 7 17 (by kernel_rfl) (by kernel_rfl); simp only [NwV] at d7
      obtain ⟨code, hv7, h7⟩ := d7
      obtain ⟨A1, c1, rfl, _⟩ := owns_form h7
      rw [hv7] at x7
      have H7 := Lib.hid h7
      clear h7
      refine ⟨_, rfl, rfl, ?_⟩; unfold yields; go_simp
      exact ⟨⟨_, _, rfl, Blk.new _ _ _, by have := HGG.out.size; have := HXZ.out; omega, owns_grow H7.out ((Fr.refl _ _).alloc _)⟩, HGG.out.alloc _, (Fr.refl _ _).alloc _⟩
    | 9, _ =>
      refine ⟨_, rfl, rfl, ?_⟩; unfold yields; go_simp
      exact ⟨rfl, HGG.out, Fr.refl _ _⟩
    | 10, _ =>
      have d9 := hd 9 (by kernel_rfl); have x9 := hev.dep 9 19 (by kernel_rfl) (by kernel_rfl); simp only [NwV] at d9
      rw [d9] at x9
      refine ⟨_, rfl, rfl, ?_⟩; unfold yields; go_simp
      exact ⟨rfl, HGG.out, Fr.refl _ _⟩
    | 11, _ =>
      have d10 := hd 10 (by kernel_rfl); have x10 := hev.dep 10 20 (by kernel_rfl) (by kernel_rfl); simp only [NwV] at d10
      rw [d10] at x10
      refine ⟨_, rfl, rfl, ?_⟩; unfold yields; go_simp
      exact ⟨rfl, HGG.out, Fr.refl _ _⟩
    | 12, _ =>
      have d11 := hd 11 (by kernel_rfl); have x11 := hev.dep 11 21 (by kernel_rfl) (by kernel_rfl); simp only [NwV] at d11
      rw [d11] at x11
      have hmk := HMC.out W
      refine ⟨_, rfl, rfl, ?_⟩; unfold yields; go_simp
      exact ⟨owns_made (by rw [ints_len, List.length_replicate, Nat.mul_one]) (by have := HGG.out.size; have := HXZ.out; omega) (by unfold maxLen; omega), HGG.out.alloc _, (Fr.refl _ _).alloc _⟩
    | 13, _ =>
      refine ⟨_, rfl, rfl, ?_⟩; unfold yields; go_simp
      exact ⟨rfl, HGG.out, Fr.refl _ _⟩
    | 14, _ =>
      have d13 := hd 13 (by kernel_rfl); have x13 := hev.dep 13 23 (by kernel_rfl) (by kernel_rfl); simp only [NwV] at d13
      rw [d13] at x13
      refine ⟨_, rfl, rfl, ?_⟩; unfold yields; go_simp
      exact ⟨rfl, HGG.out, Fr.refl _ _⟩
    | 15, _ =>
      have d14 := hd 14 (by kernel_rfl); have x14 := hev.dep 14 24 (by kernel_rfl) (by kernel_rfl); simp only [NwV] at d14
      rw [d14] at x14
      refine ⟨_, rfl, rfl, ?_⟩; unfold yields; go_simp
      refine (kept_any _ _).mono ?_
      rintro e w5 ⟨rfl, rfl⟩
      exact ⟨_, rfl, rfl, HGG.out, Fr.refl _ _⟩
    | 16, _ =>
      refine ⟨_, rfl, rfl, ?_⟩; unfold yields; go_simp
      refine (deeds_any W).mono ?_
      rintro e w5 ⟨rfl, hd5⟩
      have hg5 : Grow W w5 := hd5.grow
      exact ⟨_, rfl, ⟨_, rfl, hd5.deeds (by have := HGG.out.size; have := HXZ.out; omega)⟩, HGG.out.trans hg5, hg5⟩
    | 17, _ =>
      have d3 := hd 3 (by kernel_rfl); have x3 := hev.dep 3 13 (by kernel_rfl) (by kernel_rfl); simp only [NwV] at d3
      have d8 := hd 8 (by kernel_rfl); have x8 := hev.dep 8 18 (by kernel_rfl) (by kernel_rfl); simp only [NwV] at d8
      have d12 := hd 12 (by kernel_rfl); have x12 := hev.dep 12 22 (by kernel_rfl) (by kernel_rfl); simp only [NwV] at d12
      have d15 := hd 15 (by kernel_rfl); have x15 := hev.dep 15 25 (by kernel_rfl) (by kernel_rfl); simp only [NwV] at d15
      have d16 := hd 16 (by kernel_rfl); have x16 := hev.dep 16 26 (by kernel_rfl) (by kernel_rfl); simp only [NwV] at d16
      obtain ⟨A3, c3, hv3⟩ : ∃ A c, val 3 = .slice A _ c := by obtain ⟨A, c, e, _⟩ := owns_form d3; exact ⟨A, c, e⟩
      rw [hv3] at x3 d3
      obtain ⟨fb, code, hv8, h8⟩ := d8
      rw [hv8] at x8
      obtain ⟨A12, c12, hv12⟩ : ∃ A c, val 12 = .slice A _ c := by obtain ⟨A, c, e, _⟩ := owns_form d12; exact ⟨A, c, e⟩
      rw [hv12] at x12 d12
      rw [d15] at x15
      obtain ⟨db, hv16, h16⟩ := d16
      rw [hv16] at x16
      have H3 := Lib.hid d3
      have H8 := Lib.hid h8
      have H12 := Lib.hid d12
      have H16 := Lib.hid h16
      clear d3 h8 d12 h16
      refine ⟨_, rfl, rfl, ?_⟩; unfold yields; go_simp
      exact ⟨⟨_, _, _, db, rfl, H3.out, ⟨fb, code, rfl, H8.out⟩, H12.out, H16.out⟩, HGG.out, Fr.refl _ _⟩
    | 18, _ =>
      have d17 := hd 17 (by kernel_rfl); have x17 := hev.dep 17 27 (by kernel_rfl) (by kernel_rfl); simp only [NwV] at d17
      obtain ⟨fu, fr, cv, db, hv17, h1, h2, h3, h4⟩ := d17
      obtain ⟨A3, c3, rfl, _⟩ := owns_form h1
      obtain ⟨fb, code, rfl, h2⟩ := h2
      obtain ⟨A12, c12, rfl, _⟩ := owns_form h3
      rw [hv17] at x17
      have H1 := Lib.hid h1
      have H2 := Lib.hid h2
      have H3 := Lib.hid h3
      have H4 := Lib.hid h4
      clear h1 h2 h3 h4
      refine ⟨_, rfl, rfl, ?_⟩; unfold yields; go_simp
      exact ⟨⟨_, _, _, _, db, rfl, by have := HGG.out.size; have := HXZ.out; omega, Blk.new _ _ _, owns_grow H1.out ((Fr.refl _ _).alloc _), FrameAt.grow ⟨fb, code, rfl, H2.out⟩ ((Fr.refl _ _).alloc _), owns_grow H3.out ((Fr.refl _ _).alloc _), deeds_grow H4.out ((Fr.refl _ _).alloc _)⟩, HGG.out.alloc _, (Fr.refl _ _).alloc _⟩
    | i + 19, hi => exact absurd hi (by simp)
  · intro val W hG hV
    have v18 := hV 18 (by simp)
    simp only [NwV] at v18
    obtain ⟨mb, fu, fr, cv, db, hv, hB, hb, h1, h2, h3, h4⟩ := v18
    obtain ⟨L, hLf, hLc, hM⟩ := MaL.start hB hb h1 h2 h3 h4 n1 n4 n3
    have hWG := HXG.out.trans hG
    have HF0 : Hid (NInvF w p z mb X.heap.size fA fc mA mc cA cc oA oc uA uc tA tc eA ec fu cv (.int .i64 0) W) := Lib.hid ⟨0, L, Nat.zero_le _, rfl, hLf, hLc, by rw [stF_zero]; exact hM, hG.blk HBP.out (fun x => x), hG.blk HBZ.out (fun x => x), hWG, hG.size⟩
    obtain ⟨fuA, fuc, hfu, _, _⟩ := owns_form h1
    obtain ⟨cvA, cvc, hcv, _, _⟩ := owns_form h3
    have hbpW := hG.blk HBP.out (fun x => x)
    have z0 := hbpW.cell 0
    simp only [List.getElem?_toArray, List.getElem?_cons_zero] at z0
    have hzl := hbpW.lt
    clear hV hG hb h1 h2 h3 h4 hM hWG hLf hLc hbpW HMF HMC
    unfold wpOp
    change (if _ then _ else _)
    rw [if_pos (by kernel_rfl)]
    refine .inl ?_
    simp only [fillA, dstOf, List.getElem?_toArray, List.getElem?_cons_zero, List.getElem?_cons_succ, Option.bind_some]
    go_simp
    go_wp2_with fail
    clear z0 hzl
    go_loopw [32] (fun i wr => NInvF w p z mb X.heap.size fA fc mA mc cA cc oA oc uA uc tA tc eA ec fu cv i wr) (fun i _ => p.funcs.length - (intOf i).toNat)
    case atStart => exact HF0.out
    case round =>
      clear HF0
      obtain ⟨k, L1, hk, rfl, hLf, hLc, hm, hbp, hbz, hgw, hxw⟩ := hrel
      by_cases hlt : (k : Int) < p.funcs.length
      · obtain ⟨code, hcode⟩ : ∃ c, p.funcs[k]? = some c := ⟨_, List.getElem?_eq_getElem (by omega)⟩
        have hpa := HPA0.out.keep (W' := wr) fun q hq => hgw.cell hq (fun x => x)
        obtain ⟨cs, hrd, hel⟩ := hpa.fl
        obtain ⟨Ac, ccap, hcs, hrc⟩ := hel k code hcode
        obtain ⟨fb, fo, hfA, hfb, hfcell⟩ := hrd.at_ (by omega)
        subst hfA
        have x0 := hfcell _ _ hcs
        have hfbl : fb < wr.heap.size := by omega
        have hlc : code.length ≤ 1000000 := HN2.out code (List.mem_of_getElem? hcode)
        have hmfl := stF_len p k
        obtain ⟨gf, kf, hgf, hkf, _, hgfO, hgfl, _, _⟩ := hm.fu.at_ (by rw [hmfl]; omega)
        rw [hmfl] at hgf hkf
        have c0 := hm.blk.cell 0
        rw [hm.c.c0, hgf] at c0
        have hlm := hm.blk.lt
        have hgm : gf ≠ mb := hm.fu.ne_blk hm.blk (by decide) (by rw [hgf]; rfl)
        have HM := Lib.hid hm
        have HRC := Lib.hid hrc
        have HGF := Lib.hid hgf
        have HLF := Lib.hid hLf
        have HLC := Lib.hid hLc
        have HBP1 := Lib.hid hbp
        have HBZ1 := Lib.hid hbz
        have HGW := Lib.hid hgw
        have HCO := Lib.hid hcode
        clear hm hrc hgf hLf hLc hbp hbz hgw hcode hfcell hcs hel hrd hpa hmfl
        go_wp2_with fail
        go_region_held3 (fun w' => w'.cell? ⟨mb, 0, none⟩ = some (.slice (some ⟨gf, 0, none⟩) p.funcs.length kf)) (first | (go_keep; done) | (refine (World.cell?_setCell_other _ _ _ _ (by intro e; injection e with e; first | exact hgm e | exact hgm e.symm)).trans ?_; assumption))
          (first | (go_at_call 97; refine (clone_ins wr.drew Ac _ ccap _ _ HRC.out (pts_one _) (by omega)).mono ?_; rintro e w5 ⟨v5, rfl, ho5, hg5⟩; have HO5 := Lib.hid ho5; have HG5 := Lib.hid hg5; obtain ⟨A5, c5, hv5, _, _⟩ := owns_form ho5; subst hv5; have HM5 := Lib.hid (HM.out.drew.grow hg5); have c05 := HM5.out.blk.cell 0; rw [HM5.out.c.c0, HGF.out] at c05; obtain ⟨r5, f5, l5⟩ := HM5.out.fuAt HGF.out (i := k) (by rw [stF_len]; omega); obtain ⟨u5, r5⟩ := r5; have lm5 := HM5.out.blk.lt; clear ho5 hg5))
        have HM6 : Hid (MaL (w5.setCell ⟨gf, k, none⟩ (.slice A5 code.length c5)) mb (Onew X.heap.size (w5.setCell ⟨gf, k, none⟩ (.slice A5 code.length c5))) _ _) := Lib.hid ((HM5.out.setFu HGF.out (i := k) (O' := Onew X.heap.size w5) (v := .slice A5 code.length c5) (code := code) (by rw [stF_len]; omega) ⟨owns_mono HO5.out (Nat.zero_le _), fun g hg => ⟨by have := (HO5.out.lt g hg).1; have : wr.drew.heap.size = wr.heap.size := rfl; omega, (HO5.out.lt g hg).2⟩⟩ hlc (fun q hq => ⟨hq.1, by have := hq.2; have := HG5.out.size; have : wr.drew.heap.size = wr.heap.size := rfl; omega⟩) (fun q hq => hq.2)).mono (fun q hq => by simpa [Onew, World.setCell] using hq) (fun q hq => hq.2))
        have hne1 : w.heap.size ≠ gf := fun e => by have := hgfO.1; omega
        have hne2 : w.heap.size + 1 ≠ gf := fun e => by have := hgfO.1; omega
        have HFE : Hid (NInvF w p z mb X.heap.size (some ⟨fb, fo, none⟩) fc mA mc cA cc oA oc uA uc tA tc eA ec fu cv (.int .i64 ((k : Int) + 1)) (w5.setCell ⟨gf, k, none⟩ (.slice A5 code.length c5))) := Lib.hid (by
          refine ⟨k + 1, { L1 with fus := L1.fus.set k (.slice A5 code.length c5) }, by omega, by simp, HLF.out, HLC.out, ?_, ((HG5.out.blk HBP1.out.drew (fun x => x)).far (p := ⟨gf, k, none⟩) hne1 _), ((HG5.out.blk HBZ1.out.drew (fun x => x)).far (p := ⟨gf, k, none⟩) hne2 _), ?_, ?_⟩
          · have := HM6.out
            rw [stF_set (by omega) HCO.out] at this
            exact this
          · have hg := HGW.out.drew.trans HG5.out
            exact hg.setCell (.inr (by have := hgfO.1; simp only; omega)) _
          · have := HG5.out.size
            have : wr.drew.heap.size = wr.heap.size := rfl
            simp only [World.setCell, Array.size_modify]
            omega)
        clear HM6 HM5 HM HO5 HG5 HBP1 HBZ1 HGW HRC c0 c05 r5 f5 l5 lm5 x0
        go_wp2_with fail
        go_roundw
        case rel => exact HFE.out
        case measure => simp [intOf]; omega
      · have hke : k = p.funcs.length := by omega
        subst hke
        have z2 := hbp.cell 2
        simp only [List.getElem?_toArray, List.getElem?_cons_zero, List.getElem?_cons_succ] at z2
        have hzl := hbp.lt
        have HC0 : Hid (NInvC w p z mb X.heap.size fA fc mA mc cA cc oA oc uA uc tA tc eA ec cv (.int .i64 0) wr) := Lib.hid ⟨0, L1, Nat.zero_le _, rfl, hLc, by rw [stC_zero]; exact hm, hbp, hbz, hgw, hxw⟩
        clear hm hbp hbz hgw hxw hLf hLc
        go_wp2_with fail
        clear z2 hzl
        go_loopw [49] (fun i wr => NInvC w p z mb X.heap.size fA fc mA mc cA cc oA oc uA uc tA tc eA ec cv i wr) (fun i _ => p.cvt.length - (intOf i).toNat)
        case atStart => exact HC0.out
        case round =>
          clear HC0
          obtain ⟨k, L2, hk, rfl, hLc, hm, hbp, hbz, hgw, hxw⟩ := hrel
          by_cases hlt : (k : Int) < p.cvt.length
          · obtain ⟨x, hx⟩ : ∃ c, p.cvt[k]? = some c := ⟨_, List.getElem?_eq_getElem (by omega)⟩
            have hpa := HPA0.out.keep (W' := wr) fun q hq => hgw.cell hq (fun x => x)
            obtain ⟨cb, co, hcA, hcb, hcell⟩ := hpa.cvt.at_ (by omega)
            subst hcA
            have x0 := hcell _ _ (ints_get hx)
            have hcbl : cb < wr.heap.size := by omega
            have hmcl := stC_len p k
            obtain ⟨gv, kv, hgv, hkv, _, hgvO, hgvl, hgvc, hgvf⟩ := hm.cv.at_ (by rw [hmcl]; omega)
            rw [hmcl] at hgv hkv
            have c7 := hm.blk.cell 7
            rw [hm.c.c7, hgv] at c7
            have hlm := hm.blk.lt
            have r0 := hgvc k _ (ints_get (show (stC p k).cvt[k]? = some 0 by unfold stC; rw [mk_get (by omega), if_neg (by omega)]))
            have f0 := hgvf k
            have hne1 : w.heap.size ≠ gv := fun e => by have := hgvO.1; omega
            have hne2 : w.heap.size + 1 ≠ gv := fun e => by have := hgvO.1; omega
            have HCE : Hid (NInvC w p z mb X.heap.size fA fc mA mc (some ⟨cb, co, none⟩) cc oA oc uA uc tA tc eA ec cv (.int .i64 ((k : Int) + 1)) ((wr.setCell ⟨gv, k, none⟩ (.int .i64 (k32 x))).drew)) := Lib.hid (by
              refine ⟨k + 1, L2, by omega, by simp, hLc, ?_, (hbp.far (p := ⟨gv, k, none⟩) hne1 _).drew, (hbz.far (p := ⟨gv, k, none⟩) hne2 _).drew, ?_, ?_⟩
              · have := (hm.setCv hgv (i := k) (by rw [hmcl]; omega) (k32_in x)).drew
                rw [stC_set (by omega) hx] at this
                exact this.mono (fun q hq => by simpa [Onew, World.setCell] using hq) (fun q hq => hq.2)
              · exact (hgw.setCell (.inr (by have := hgvO.1; simp only; omega)) _).drew
              · simp only [World.drew, World.setCell, Array.size_modify]; exact hxw)
            clear hm hbp hbz hgw hxw hLc hcell hx hpa hgv hgvc hgvf hmcl
            go_wp2_with fail
            go_still_tail 8, (by kernel_rfl)
            still_call (kept_still x _)
            repeat still_step
            refine wpStill_nil ?_
            change wpList _ _ _ _ _ wr.drew
            go_wp2_with fail
            go_roundw
            case rel => exact HCE.out
            case measure => simp [intOf]; omega
          · have hke : k = p.cvt.length := by omega
            subst hke
            have q0 := hbz.cell 0
            have q1 := hbz.cell 1
            have q2 := hbz.cell 2
            have q3 := hbz.cell 3
            simp only [List.getElem?_toArray, List.getElem?_cons_zero, List.getElem?_cons_succ] at q0 q1 q2 q3
            have hzl := hbz.lt
            have hwz := hgw.size
            have hza := HZA0.out.keep (W' := wr) fun q hq => hgw.cell hq (fun x => x)
            have HPT := Lib.hid (points_any wr mb (Onew X.heap.size wr) L2 (stC p p.cvt.length) hm rfl z HZK.out w.heap.size hwz (fun k hk e => by have := e.1; omega) oA uA tA eA oc uc tc ec hza)
            have HGW := Lib.hid hgw
            have HXW := Lib.hid hxw
            clear hm hbp hbz hgw hxw hLc hza
            go_wp2_with fail
            refine HPT.out.mono ?_
            rintro e w9 ⟨rfl, ⟨L9, hm9⟩, hf9⟩
            rw [stC_end] at hm9
            have HE : Hid (NewPost w p z (.returned (.pointer (some ⟨mb, 0, none⟩))) w9) := Lib.hid ⟨mb, _, L9, rfl, hm9, fun k hk => by
              rcases hk with hk | hk
              · have := hk.1; omega
              · have := HGW.out.size; omega, by
              have h1 : Below w.heap.size w wr := Grow.below HGW.out (Nat.le_refl _)
              exact h1.trans (hf9.below HGW.out.size (fun k hk e => by have := e.1; omega))⟩
            clear hm9 hf9 HPT
            go_wp2
            go_ret
            exact HE.out
end Go.Proofs.YtnhebmgibiomnaaGreat
namespace Go.Proofs.YtnhebmgibiomnaaGreat
open Go.RowKit Mc
theorem RanAt.mono {B B' : Nat} {s : St} {W : World} {og cu to en cv st sk : Value} (h : RanAt B s W og cu to en cv st sk) (hb : B' ≤ B) : RanAt B' s W og cu to en cv st sk :=
  ⟨owns_mono h.og hb, owns_mono h.cu hb, owns_mono h.to hb, owns_mono h.en hb, owns_mono h.cv hb, owns_mono h.st hb, owns_mono h.sk hb⟩
end Go.Proofs.YtnhebmgibiomnaaGreat

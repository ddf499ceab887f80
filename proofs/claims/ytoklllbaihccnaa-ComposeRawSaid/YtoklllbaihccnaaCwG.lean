/- Any glyphs as an argument, opened; six of each kind cut out of them. · The law ComposeRaw: its walk. Expanded from XCwR.src by expand.py. -/
import Derived.Test.YtoklllbaihccnaaOpenK
import Derived.Test.YtoklllbaihccnaaCpE
import Derived.Test.YtoklllbaihccnaaCwV
set_option linter.unusedVariables false
set_option linter.unusedSimpArgs false
namespace Go.Proofs.Ytoklllbaihccnaa
open Go.ChangeShapes Go.WideShapes Go.ChangeAt Go.RowKit Go.Deep
/-- a slice of which nothing is known but its form -/
def Repr.sl {N0 : Nat} : Repr N0 (Option Addr × Nat × Nat) where
  size := 1
  tys := []
  rel _ _ a cs := cs = [.slice a.1 a.2.1 a.2.2]
  len h := by subst h; rfl
  keep h _ := h
  more h _ := h
  one h := by subst h; simp [Value.oneCell']
abbrev pt3R (N0 : Nat) : Repr N0 (Int × Int × Bool) := Repr.pair Repr.int (Repr.pair Repr.int Repr.bool)
abbrev prtR (N0 : Nat) : Repr N0 Prt := Repr.pair Repr.int (Repr.pair Repr.int Repr.int)
abbrev olR (N0 : Nat) : Repr N0 (List (Int × Int × Bool) × List Int) := Repr.pair (Repr.row 59 (pt3R N0)) (Repr.row 3 Repr.int)
abbrev rawR (N0 : Nat) := Repr.pair (Repr.str (N0 := N0)) (Repr.pair Repr.int (Repr.pair Repr.bool (Repr.pair (olR N0) (Repr.pair (Repr.row 48 (prtR N0)) (Repr.pair Repr.sl (Repr.pair Repr.sl Repr.sl))))))
/-- a glyph as it is handed in -/
structure Gi where
  s : ByteArray
  a : Int
  m : Bool
  g : Gl
  pA : Option Addr
  pc : Nat
  eA : Option Addr
  ec : Nat
  qA : Option Addr
  qc : Nat
  x : Option Addr × Nat × Nat
  y : Option Addr × Nat × Nat
  z : Option Addr × Nat × Nat
instance : Inhabited Gi := ⟨⟨⟨#[]⟩, 0, false, ⟨[], [], []⟩, none, 0, none, 0, none, 0, (none, 0, 0), (none, 0, 0), (none, 0, 0)⟩⟩
abbrev giCells (d : Gi) : List Value := [.string d.s, .int .i64 d.a, .bool d.m, .slice d.pA d.g.pts.length d.pc, .slice d.eA d.g.ends.length d.ec, .slice d.qA d.g.parts.length d.qc, .slice d.x.1 d.x.2.1 d.x.2.2, .slice d.y.1 d.y.2.1 d.y.2.2, .slice d.z.1 d.z.2.1 d.z.2.2]
structure GiOk (w : World) (d : Gi) : Prop where
  p : d.g.pts.length ≤ d.pc ∧ d.pc ≤ maxLen ∧ Reads w w.heap.size 3 d.pA d.g.pts.length (opts d.g.pts) ∧ ∀ p ∈ d.g.pts, I64 p.1 ∧ I64 p.2.1
  e : d.g.ends.length ≤ d.ec ∧ d.ec ≤ maxLen ∧ Reads w w.heap.size 1 d.eA d.g.ends.length (ints d.g.ends) ∧ ∀ p ∈ d.g.ends, I64 p
  q : d.g.parts.length ≤ d.qc ∧ d.qc ≤ maxLen ∧ Reads w w.heap.size 3 d.qA d.g.parts.length (prts d.g.parts) ∧ ∀ p ∈ d.g.parts, I64 p.1 ∧ I64 p.2.1 ∧ I64 p.2.2
theorem pt3R_eq {N0 : Nat} {w : World} {B : Nat} {x : Int × Int × Bool} {cs : List Value} (h : (pt3R N0).rel w B x cs) : cs = [.int .i64 x.1, .int .i64 x.2.1, .bool x.2.2] ∧ I64 x.1 ∧ I64 x.2.1 := by
  obtain ⟨_, _, rfl, ⟨rfl, h1⟩, _, _, rfl, ⟨rfl, h2⟩, rfl⟩ := h; exact ⟨rfl, h1, h2⟩
theorem prtR_eq {N0 : Nat} {w : World} {B : Nat} {x : Prt} {cs : List Value} (h : (prtR N0).rel w B x cs) : cs = [.int .i64 x.1, .int .i64 x.2.1, .int .i64 x.2.2] ∧ I64 x.1 ∧ I64 x.2.1 ∧ I64 x.2.2 := by
  obtain ⟨_, _, rfl, ⟨rfl, h1⟩, _, _, rfl, ⟨rfl, h2⟩, rfl, h3⟩ := h; exact ⟨rfl, h1, h2, h3⟩
theorem intsG (l : List Int) : ints l = l.flatMap fun x => [.int .i64 x] := ints_flat l
theorem row_all {α : Type} {N0 : Nat} {R : Repr N0 α} {t : TypeId} {w : World} {B : Nat} {A : Option Addr} {l : List α} (h : RowAt R t w B A l) : ∀ x ∈ l, ∃ cs, R.rel w B x cs := by
  intro x hx
  obtain ⟨i, hi⟩ := List.getElem?_of_mem hx
  obtain ⟨_, _, cs, _, _, hr, _⟩ := h.get hi
  exact ⟨cs, hr⟩
theorem raw_gi {w : World} {x} {cs : List Value} (h : (rawR w.heap.size).rel w w.heap.size x cs) : ∃ d : Gi, cs = giCells d ∧ GiOk w d := by
  obtain ⟨s, a, m, ⟨pl, el⟩, ql, x, y, z⟩ := x
  obtain ⟨_, _, rfl, rfl, _, _, rfl, ⟨rfl, _⟩, _, _, rfl, rfl, _, _, rfl, ⟨_, _, rfl, ⟨pA, pc, rfl, a1, a2, a3⟩, eA, ec, rfl, d1, d2, d3⟩, _, _, rfl, ⟨qA, qc, rfl, b1, b2, b3⟩, _, _, rfl, rfl, _, _, rfl, rfl, rfl⟩ := h
  refine ⟨⟨s, a, m, ⟨ql, pl, el⟩, pA, pc, eA, ec, qA, qc, x, y, z⟩, rfl, ⟨a1, a2, a3.reads _ fun a cs h => (pt3R_eq h).1, fun p hp => ?_⟩, ⟨d1, d2, ?_, fun p hp => ?_⟩, ⟨b1, b2, b3.reads _ fun a cs h => (prtR_eq h).1, fun p hp => ?_⟩⟩
  · obtain ⟨_, hr⟩ := row_all a3 p hp
    exact (pt3R_eq hr).2
  · have h := d3.reads (fun x => [.int .i64 x]) fun a cs h => h.1
    rw [← ints_flat] at h
    exact h
  · obtain ⟨_, hr⟩ := row_all d3 p hp
    exact hr.2
  · obtain ⟨_, hr⟩ := row_all b3 p hp
    exact (prtR_eq hr).2
section
variable {H : Type} {enc : TypeId × Value → H} {w : World} {spare : Nat → Bool} {held : Bool}
theorem opens_sl {t e : TypeId} (ht : Try.prog.underlying t = some (.slice e)) : Opens enc Try.prog w spare held (Repr.sl (N0 := w.heap.size)) t := by
  intro fuel cs x hx
  rcases open_slice ht hx with ⟨rfl, _⟩ | ⟨a, len, cap, m, n, D, Pl, rfl, _⟩
  · exact ⟨(none, 0, 0), rfl⟩
  · exact ⟨(some a, len, cap), rfl⟩
set_option maxRecDepth 100000 in
theorem opens_pt3 : Opens enc Try.prog w spare held (pt3R w.heap.size) 59 :=
  opens_struct Try.underlying59 (by kernel_rfl) (opens_fields rfl (opens_int Try.underlying3) (by kernel_rfl) rfl (opens_fields rfl (opens_int Try.underlying3) (by kernel_rfl) rfl (opens_field rfl (opens_bool Try.underlying4) (by kernel_rfl))))
set_option maxRecDepth 100000 in
theorem opens_prt : Opens enc Try.prog w spare held (prtR w.heap.size) 48 :=
  opens_struct Try.underlying48 (by kernel_rfl) (opens_fields rfl (opens_int Try.underlying3) (by kernel_rfl) rfl (opens_fields rfl (opens_int Try.underlying3) (by kernel_rfl) rfl (opens_field rfl (opens_int Try.underlying3) (by kernel_rfl))))
set_option maxRecDepth 100000 in
theorem opens_ol : Opens enc Try.prog w spare held (olR w.heap.size) 39 :=
  opens_struct Try.underlying39 (by kernel_rfl) (opens_fields rfl (opens_row Try.underlying37 (by kernel_rfl) (show 0 < 3 by decide) opens_pt3) (by kernel_rfl) rfl (opens_field rfl opens_nums (by kernel_rfl)))
set_option maxRecDepth 100000 in
theorem opens_raw : Opens enc Try.prog w spare held (rawR w.heap.size) 45 :=
  opens_struct Try.underlying45 (by kernel_rfl) (opens_fields rfl (opens_str Try.underlying9) (by kernel_rfl) rfl (opens_fields rfl (opens_int Try.underlying3) (by kernel_rfl) rfl (opens_fields rfl (opens_bool Try.underlying4) (by kernel_rfl) rfl
    (opens_fields rfl opens_ol (by kernel_rfl) rfl (opens_fields rfl (opens_row Try.underlying40 (by kernel_rfl) (show 0 < 3 by decide) opens_prt) (by kernel_rfl) rfl (opens_fields rfl (opens_sl Try.underlying41) (by kernel_rfl) rfl (opens_fields rfl (opens_sl Try.underlying42) (by kernel_rfl) rfl (opens_field rfl (opens_sl Try.underlying43) (by kernel_rfl)))))))))
set_option maxRecDepth 100000 in
theorem opens_raws : Opens enc Try.prog w spare held (Repr.row 45 (rawR w.heap.size)) 24 := opens_row Try.underlying24 (by kernel_rfl) (show 0 < 9 by decide) opens_raw
theorem glyphs_open {fuel : Nat} {cs : List Value} {x : DataW H × List MemPlace} (h : DataW.trod enc Try.prog w 0 spare held fuel 24 cs = some x) :
    ∃ (n : Nat) (A : Option Addr) (c : Nat) (d : Nat → Gi), cs = [.slice A n c] ∧ n ≤ maxLen ∧ ∀ i, i < n → GiOk w (d i) ∧ ∃ b off, A = some ⟨b, off, none⟩ ∧ b < w.heap.size ∧ ∀ j u, (giCells (d i))[j]? = some u → w.cell? ⟨b, off + i * 9 + j, none⟩ = some u := by
  obtain ⟨l, A, c, rfl, h1, h2, h3⟩ := opens_raws _ _ _ h
  have hel : ∀ i, i < l.length → ∃ d : Gi, GiOk w d ∧ ∃ b off, A = some ⟨b, off, none⟩ ∧ b < w.heap.size ∧ ∀ j u, (giCells d)[j]? = some u → w.cell? ⟨b, off + i * 9 + j, none⟩ = some u := by
    intro i hi
    obtain ⟨b, off, cs, e, hb, hr, hc⟩ := h3.get (List.getElem?_eq_getElem hi)
    obtain ⟨d, rfl, hd⟩ := raw_gi hr
    exact ⟨d, hd, b, off, e, hb, hc⟩
  obtain ⟨f, hf⟩ := choose_lt hel
  exact ⟨l.length, A, c, f, rfl, Nat.le_trans h1 h2, hf⟩
end
/-- six of each kind at most -/
def cut6 (g : Gl) : Gl := ⟨g.parts.take 6, g.pts.take 6, g.ends.take 6⟩
theorem reads_take {α : Type} {w : World} {B size : Nat} {A : Option Addr} {l : List α} (f : α → List Value) (hf : ∀ a, (f a).length = size) (h : Reads w B size A l.length (l.flatMap f)) (k : Nat) : Reads w B size A (l.take k).length ((l.take k).flatMap f) := by
  have hlen : ∀ l : List α, (l.flatMap f).length = l.length * size := by
    intro l
    induction l with
    | nil => simp
    | cons a l ih => rw [List.flatMap_cons, List.length_append, hf, ih, List.length_cons, Nat.succ_mul]; omega
  refine ⟨hlen _, fun hp => ?_⟩
  have hl : 0 < l.length := by rw [List.length_take] at hp; omega
  obtain ⟨b, off, e, hb, hc⟩ := h.2 hl
  refine ⟨b, off, e, hb, fun j u hj => hc j u ?_⟩
  conv => lhs; rw [← List.take_append_drop k l]
  rw [List.flatMap_append, List.getElem?_append_left (List.getElem?_eq_some_iff.1 hj).1]
  exact hj
abbrev cutCells (d : Gi) : List Value := [.string ⟨#[]⟩, .int .i64 0, .bool false, .slice d.pA (min d.g.pts.length 6) d.pc, .slice d.eA (min d.g.ends.length 6) d.ec, .slice d.qA (min d.g.parts.length 6) d.qc, .slice none 0 0, .slice none 0 0, .slice none 0 0]
theorem GiOk.cut {w : World} {d : Gi} (h : GiOk w d) : GlAt w w.heap.size (cut6 d.g) (cutCells d) := by
  obtain ⟨p1, p2, p3, p4⟩ := h.p
  obtain ⟨e1, e2, e3, e4⟩ := h.e
  obtain ⟨q1, q2, q3, q4⟩ := h.q
  have hm : ∀ {α : Type} (l : List α), min l.length 6 = (l.take 6).length := fun l => by rw [List.length_take]; omega
  refine ⟨⟨_, _, _, d.pA, d.pc, d.eA, d.ec, d.qA, d.qc, _, _, _, by show cutCells d = _; unfold cutCells; rw [hm, hm, hm]; rfl, ?_, ?_, ?_, reads_take (fun p : Int × Int × Bool => [.int .i64 p.1, .int .i64 p.2.1, .bool p.2.2]) (fun _ => rfl) p3 6, ?_, reads_take (fun p : Prt => [.int .i64 p.1, .int .i64 p.2.1, .int .i64 p.2.2]) (fun _ => rfl) q3 6⟩, ⟨?_, fun p hp => p4 p (List.mem_of_mem_take hp)⟩, ⟨?_, fun p hp => e4 p (List.mem_of_mem_take hp)⟩, ⟨?_, fun p hp => q4 p (List.mem_of_mem_take hp)⟩⟩
  any_goals (simp only [cut6, List.length_take]; omega)
  show Reads w w.heap.size 1 d.eA (d.g.ends.take 6).length (ints (d.g.ends.take 6))
  rw [ints_flat] at e3 ⊢
  exact reads_take (fun x : Int => [.int .i64 x]) (fun _ => rfl) e3 6
end Go.Proofs.Ytoklllbaihccnaa
namespace Go.Proofs.Ytoklllbaihccnaa
open Go.RowKit Go.Shelf
/-- k glyphs are cut out and stand in the font at fb -/
structure RawI (w : World) (fb : Nat) (d : Nat → Gi) (k : Nat) (gv : Value) (W : World) : Prop where
  box : Blk W fb 32 (fontC gv)
  row : W.ownsRow (fb + 1) 45 9 gv k ((List.range k).map fun i => cutCells (d i)).flatten
  below : Below w.heap.size w W
  lt : w.heap.size ≤ fb
abbrev giCells' (d : Gi) (gp ge gq : Nat) : List Value := [.string d.s, .int .i64 d.a, .bool d.m, .slice d.pA gp d.pc, .slice d.eA ge d.ec, .slice d.qA gq d.qc, .slice d.x.1 d.x.2.1 d.x.2.2, .slice d.y.1 d.y.2.1 d.y.2.2, .slice d.z.1 d.z.2.1 d.z.2.2]
abbrev cutCells' (d : Gi) (mp me mq : Nat) : List Value := [.string ⟨#[]⟩, .int .i64 0, .bool false, .slice d.pA mp d.pc, .slice d.eA me d.ec, .slice d.qA mq d.qc, .slice none 0 0, .slice none 0 0, .slice none 0 0]
theorem RawI.push {w w6 : World} {fb k : Nat} {d : Nat → Gi} {gv v' : Value} (hx : Blk w6 fb 32 (fontC gv)) (hr : w6.ownsRow (fb + 1) 45 9 v' (k + 1) (((List.range k).map fun i => cutCells (d i)).flatten ++ cutCells (d k))) (hb : Below w.heap.size w w6) (hl : w.heap.size ≤ fb) :
    RawI w fb d (k + 1) v' (w6.setCell ⟨fb, 1, none⟩ v') := by
  refine ⟨?_, ?_, hb.setCell (p := ⟨fb, 1, none⟩) hl _, hl⟩
  · have := hx.set_ 1 v'
    simpa [fontC] using this
  · rw [List.range_succ, List.map_append, List.flatten_append, List.map_singleton, List.flatten_singleton]
    exact owns_set hr hx (by decide) 1 v'
theorem RawI.fat {w W : World} {fb k n : Nat} {d : Nat → Gi} {gA : Option Addr} {gc : Nat} (h : RawI w fb d k (.slice gA k gc) W) (hd : ∀ i, i < n → GiOk w (d i)) (hk : k ≤ n ∧ k ≤ 6) : FAt W W.heap.size gA ((List.range k).map fun i => cut6 (d i).g) := by
  refine ⟨⟨(List.range k).map fun i => cutCells (d i), by simp, fun i g cs hg hc => ?_, ?_⟩, by simp; omega⟩
  · simp only [List.getElem?_map, Option.map_eq_some_iff] at hg hc
    obtain ⟨i1, h1, rfl⟩ := hg
    obtain ⟨i2, h2, rfl⟩ := hc
    rw [h1] at h2
    injection h2 with h2
    subst h2
    obtain ⟨h3, h4⟩ := List.getElem?_eq_some_iff.1 h1
    simp at h3 h4
    exact ((hd i1 (by omega)).cut.keep fun p hp => h.below.cell hp).more h.below.size
  · have := Reads.of_own h.row
    simpa using this
theorem cut_tlF (d : Nat → Gi) (k : Nat) : TlF ((List.range k).map fun i => cut6 (d i).g) := by
  have hget : ∀ (i : Nat) (x : Gl), ((List.range k).map fun i => cut6 (d i).g)[i]? = some x → x.parts.length ≤ 6 ∧ x.ends.length ≤ 6 := fun i x h => by
    simp only [List.getElem?_map, Option.map_eq_some_iff] at h
    obtain ⟨j, _, rfl⟩ := h
    simp only [cut6, List.length_take]
    omega
  generalize (List.range k).map (fun i => cut6 (d i).g) = gl at hget
  have hraw : ∀ g : Nat, ((gl[g]?.map Gl.parts).getD []).length ≤ 6 := fun g => by
    cases h : gl[g]? with
    | none => simp
    | some x => exact (hget _ _ h).1
  have hps : ∀ g : Nat, (partsOf gl g).length ≤ 6 := fun g => Nat.le_trans (List.length_filter_le _ _) (hraw g)
  refine ⟨fun g => Nat.le_trans (hps g) (by decide), fun g => Nat.le_trans (hraw g) (by decide), 6, 6, fun y => ?_, fun y => hps _, by decide⟩
  unfold Dp.ownO
  cases h : gl[y.toNat]? with
  | none => simp
  | some x => exact (hget _ _ h).2
set_option maxRecDepth 100000 in
set_option maxHeartbeats 4000000 in
theorem raw4_walk (A : Option Addr) (n c : Nat) (d : Nat → Gi) (w : World) (hn : n ≤ maxLen) (hd : ∀ i, i < n → GiOk w (d i) ∧ ∃ b off, A = some ⟨b, off, none⟩ ∧ b < w.heap.size ∧ ∀ j u, (giCells (d i))[j]? = some u → w.cell? ⟨b, off + i * 9 + j, none⟩ = some u) :
    Calls Try.prog 5 #[.slice A n c] w fun e w' => e = .returned (.bool true) ∧ Below w.heap.size w w' := by
  have HD := Lib.hid hd
  obtain ⟨i1, hi0, hi1, hi2, hi3⟩ := info_m info_glyph
  have HD0 := Lib.hid (fun i hi => (hd i hi).1)
  unfold maxLen at hn
  clear hd
  go_enter Try.func5, Try.ntmps5
  go_wp2_with fail
  refine (awake_any _).mono ?_
  rintro e w1 ⟨rfl, hg1⟩
  have HG1 := Lib.hid (hg1.below (Nat.le_refl _))
  clear hg1
  go_wp2_with fail
  go_loopw [5] (fun i wr => ∃ (k : Nat) (gv : Value), (k ≤ n ∧ k ≤ 6) ∧ i = .int .i64 k ∧ RawI w w1.heap.size d k gv wr) (fun i _ => n - (intOf i).toNat)
  case atStart => exact ⟨0, .slice none 0 0, by omega, rfl, Blk.new _ _ _, owns_nil _ _ _ _, HG1.out.alloc HG1.out.size _, HG1.out.size⟩
  case round =>
    obtain ⟨k, gv, hk6, rfl, hI⟩ := hrel
    obtain ⟨gA, gc, rfl, hgc, _⟩ := owns_form hI.row
    by_cases hkn : k < n
    · have hd1 : decide (k < n) = true := decide_eq_true hkn
      by_cases hk5 : k < 6
      · have hd2 : decide (k < 6) = true := decide_eq_true hk5
        obtain ⟨hok, b, off, rfl, hb, hcell⟩ := HD.out k hkn
        have HOK := Lib.hid hok
        have HI := Lib.hid hI
        have hs1 := hI.below.size
        have hs2 := hI.lt
        have hz : ∀ j u, (giCells (d k))[j]? = some u → wr.cell? ⟨b, off + k * 9 + j, none⟩ = some u := fun j u hu => (hI.below.cell hb).trans (hcell j u hu)
        obtain ⟨x, hx⟩ : ∃ x, d k = x := ⟨_, rfl⟩
        rw [hx] at hz
        have HX := Lib.hid hx
        have z0 := hz 0 _ rfl
        rw [Nat.add_zero] at z0
        have z1 := hz 1 _ rfl
        have z2 := hz 2 _ rfl
        have z3 := hz 3 _ rfl
        have z4 := hz 4 _ rfl
        have z5 := hz 5 _ rfl
        have z6 := hz 6 _ rfl
        have z7 := hz 7 _ rfl
        have z8 := hz 8 _ rfl
        have hbl : b < wr.heap.size := by omega
        obtain ⟨gp, hgp⟩ : ∃ gp, x.g.pts.length = gp := ⟨_, rfl⟩
        obtain ⟨ge, hge⟩ : ∃ ge, x.g.ends.length = ge := ⟨_, rfl⟩
        obtain ⟨gq, hgq⟩ : ∃ gq, x.g.parts.length = gq := ⟨_, rfl⟩
        rw [hgp] at z3
        rw [hge] at z4
        rw [hgq] at z5
        have HGP := Lib.hid hgp
        have HGE := Lib.hid hge
        have HGQ := Lib.hid hgq
        have b1 := hI.box.cell 1
        have bl := hI.box.lt
        simp only [List.getElem?_toArray, List.getElem?_cons_zero, List.getElem?_cons_succ] at b1
        clear hz hcell hI hok hx hgp hge hgq hd1 hd2
        go_upto_region 7 with fail
        obtain ⟨W5, hW5⟩ : ∃ W5, wr.alloc (.cells (giCells' x gp ge gq).toArray 45) = W5 := ⟨_, rfl⟩
        have hG5 : Blk W5 wr.heap.size 45 (giCells' x gp ge gq).toArray := by rw [← hW5]; exact Blk.new _ _ _
        have hb5 : Below wr.heap.size wr W5 := by rw [← hW5]; exact (Below.refl _ _).alloc (Nat.le_refl _) _
        have hg5 : Grow wr W5 := by rw [← hW5]; exact (Fr.refl _ _).alloc _
        have hs5 : W5.heap.size = wr.heap.size + 1 := by rw [← hW5]; simp
        rw [show wr.alloc (.cells #[.string x.s, .int .i64 x.a, .bool x.m, .slice x.pA gp x.pc, .slice x.eA ge x.ec, .slice x.qA gq x.qc, .slice x.x.1 x.x.2.1 x.x.2.2, .slice x.y.1 x.y.2.1 x.y.2.2, .slice x.z.1 x.z.2.1 x.z.2.2] 45) = W5 from hW5]
        have c3 := hG5.cell 3
        have c4 := hG5.cell 4
        have c5 := hG5.cell 5
        simp only [giCells', List.toList_toArray, List.getElem?_toArray, List.getElem?_cons_zero, List.getElem?_cons_succ] at c3 c4 c5
        have b5 := (HI.out.box.on hb5).cell 1
        simp only [List.getElem?_toArray, List.getElem?_cons_zero, List.getElem?_cons_succ] at b5
        have HG5 := Lib.hid hG5
        have HW5 := Lib.hid hg5
        have HS5 := Lib.hid hs5
        have HB5 := Lib.hid hb5
        clear z0 z1 z2 z3 z4 z5 z6 z7 z8 hW5 hG5 hb5 hg5 hs5 b1
        obtain ⟨mp, hmp⟩ : ∃ m, min gp 6 = m := ⟨_, rfl⟩
        obtain ⟨me, hme⟩ : ∃ m, min ge 6 = m := ⟨_, rfl⟩
        obtain ⟨mq, hmq⟩ : ∃ m, min gq 6 = m := ⟨_, rfl⟩
        have hp1 : min (gp : Int) 6 = (mp : Int) := by omega
        have he1 : min (ge : Int) 6 = (me : Int) := by omega
        have hq1 : min (gq : Int) 6 = (mq : Int) := by omega
        have hp2 : mp ≤ x.pc := by have := HOK.out.p.1; rw [HX.out, HGP.out] at this; omega
        have he2 : me ≤ x.ec := by have := HOK.out.e.1; rw [HX.out, HGE.out] at this; omega
        have hq2 : mq ≤ x.qc := by have := HOK.out.q.1; rw [HX.out, HGQ.out] at this; omega
        have HMP := Lib.hid hmp
        have HME := Lib.hid hme
        have HMQ := Lib.hid hmq
        clear hmp hme hmq
        have hS : W5.drew.cell? ⟨w1.heap.size, 1, none⟩ = some (.slice gA k gc) ∧ W5.drew.cell? ⟨wr.heap.size, 3, none⟩ = some (.slice x.pA gp x.pc) ∧ W5.drew.cell? ⟨wr.heap.size, 4, none⟩ = some (.slice x.eA ge x.ec) ∧ W5.drew.cell? ⟨wr.heap.size, 5, none⟩ = some (.slice x.qA gq x.qc) := ⟨b5, c3, c4, c5⟩
        refine wp_region_seqT (fun i => !([29, 30, 32] : List Nat).contains i) (fun i => ([1, 4, 7, 13, 16, 22, 24] : List Nat).contains i) (fun i => ([29] : List Nat).contains i) [0, 1, 2, 3, 4, 5, 6, 7, 8, 9, 10, 11, 12, 13, 14, 15, 16, 17, 18, 19, 20, 21, 22, 23, 24, 25, 26, 27, 28, 29, 30, 31, 32] (fun wq : World => wq.cell? ⟨w1.heap.size, 1, none⟩ = some (.slice gA k gc) ∧ wq.cell? ⟨wr.heap.size, 3, none⟩ = some (.slice x.pA gp x.pc) ∧ wq.cell? ⟨wr.heap.size, 4, none⟩ = some (.slice x.eA ge x.ec) ∧ wq.cell? ⟨wr.heap.size, 5, none⟩ = some (.slice x.qA gq x.qc)) (by kernel_rfl) (by kernel_rfl) (by kernel_rfl) (by kernel_rfl) ?_
        iterate 29 (first | refine wpSeq_pureA (v := _) rfl rfl rfl ?_ | refine wpSeq_loadA (v := _) rfl rfl hS rfl ?_)
        refine wpSeq_heavy rfl rfl (fun K hK => ?_); go_simp
        obtain ⟨W6, hW6⟩ : ∃ W6, (W5.alloc (.cells (cutCells' x mp me mq).toArray 45)).drew = W6 := ⟨_, rfl⟩
        have hG6 : Blk W6 W5.heap.size 45 (cutCells' x mp me mq).toArray := by rw [← hW6]; exact Blk.new _ _ _
        have hb6 : Below W5.heap.size W5 W6 := by rw [← hW6]; exact ((Below.refl _ _).alloc (Nat.le_refl _) _).drew
        have hg6 : Grow wr W6 := by rw [← hW6]; exact (HW5.out.alloc _).drew
        have hs6 : W6.heap.size = W5.heap.size + 1 := by rw [← hW6]; simp
        have hR6 : Reads W6 W6.heap.size 9 (some ⟨W5.heap.size, 0, none⟩) 1 (cutCells' x mp me mq) := Reads.blk hG6 9 1 rfl
        have hO6 : ∀ u ∈ cutCells' x mp me mq, u.oneCell' = true := by
          intro u hu
          simp only [cutCells', List.mem_cons, List.not_mem_nil, or_false] at hu
          rcases hu with rfl | rfl | rfl | rfl | rfl | rfl | rfl | rfl | rfl <;> rfl
        have hr6 := owns_grow HI.out.row hg6
        have hx6 : Blk W6 w1.heap.size 32 (fontC (.slice gA k gc)) := (HI.out.box.on HB5.out).on hb6
        have hy6 : Blk W6 wr.heap.size 45 (giCells' x gp ge gq).toArray := HG5.out.on hb6
        have d3 := hy6.cell 3
        have d4 := hy6.cell 4
        have d5 := hy6.cell 5
        have e5 := hx6.cell 1
        simp only [giCells', List.toList_toArray, List.getElem?_toArray, List.getElem?_cons_zero, List.getElem?_cons_succ] at d3 d4 d5 e5
        have HB6 := Lib.hid (HI.out.below.trans ((HB5.out.trans (hb6.mono HB5.out.size)).mono HI.out.below.size))
        have HX6 := Lib.hid hx6
        have HR6 := Lib.hid hR6
        have HO6 := Lib.hid hO6
        have HP6 := Lib.hid hr6
        have HS6 := Lib.hid hs6
        rw [show (W5.alloc (.cells #[.string ⟨#[]⟩, .int .i64 0, .bool false, .slice x.pA mp x.pc, .slice x.eA me x.ec, .slice x.qA mq x.qc, .slice none 0 0, .slice none 0 0, .slice none 0 0] 45)).drew = W6 from hW6]
        clear hG6 hb6 hg6 hs6 hR6 hO6 hr6 hx6 hy6 hW6
        refine hK _ _ (fun _ => ⟨e5, d3, d4, d5⟩) ?_; clear hK K
        refine wpSeq_heavy rfl rfl (fun K hK => ?_)
        refine step_own _ rfl (.tmp 23) (.tmp 51) _ rfl (w1.heap.size + 1) 45 i1 _ 9 176 Try.underlying24 hi0 hi1 hi2 hi3 rfl (by decide) (.slice gA k gc) k _ rfl HP6.out _ _ 1 1 (cutCells' x mp me mq) rfl HR6.out HO6.out (by unfold maxLen; omega) (by omega) (by have := HS6.out; have := HS5.out; omega) ?_
        intro v' w6 hrow hg hnew
        have hx7 : Blk w6 w1.heap.size 32 (fontC (.slice gA k gc)) := (hg.block _ HX6.out.lt fun e => by have := (owns_block HP6.out e.symm).1; omega).trans HX6.out
        have hB7 : Below w.heap.size w w6 := HB6.out.grown hg HB6.out.size fun e he => by have := (owns_block HP6.out he).1; omega
        have t0 := hx7.cell 1
        have tf := hx7.frozen 1
        have tl := hx7.lt
        simp only [List.getElem?_toArray, List.getElem?_cons_zero, List.getElem?_cons_succ] at t0
        have HN7 := Lib.hid (RawI.push (d := d) hx7 (by rw [HX.out]; exact (show cutCells x = cutCells' x mp me mq by unfold cutCells cutCells'; rw [HGP.out, HGE.out, HGQ.out, HMP.out, HME.out, HMQ.out]) ▸ hrow) hB7 (by have := HI.out.lt; omega))
        obtain ⟨Av, cv, hve, _⟩ := owns_form hrow
        subst hve
        clear hrow hg hnew hx7 hB7
        refine hK _ _ (fun h => by cases h) ?_; clear hK K
        iterate 1 (first | refine wpSeq_pureA (v := _) rfl rfl rfl ?_ | refine wpSeq_loadA (v := _) rfl rfl hS rfl ?_)
        refine wpSeq_heavy rfl rfl (fun K hK => ?_); go_simp
        refine hK _ _ (fun h => by cases h) ?_; clear hK K
        refine wpSeq_end ?_
        clear hS b5 c3 c4 c5 e5 d3 d4 d5
        go_wp2_with fail
        exact ⟨⟨k + 1, _, by omega, by simp, HN7.out⟩, by simp only [intOf]; omega⟩
      · have hd2 : decide (k < 6) = false := decide_eq_false hk5
        have hf := hI.fat HD0.out hk6
        have HF := Lib.hid hf
        have HX := Lib.hid hI.box
        have HB := Lib.hid hI.below
        have y0 := hI.box.cell 0
        have y1 := hI.box.cell 1
        have y2 := hI.box.cell 2
        have y3 := hI.box.cell 3
        have y4 := hI.box.cell 4
        have y5 := hI.box.cell 5
        have y6 := hI.box.cell 6
        have y7 := hI.box.cell 7
        have y8 := hI.box.cell 8
        have yl := hI.box.lt
        simp only [List.getElem?_toArray, List.getElem?_cons_zero, List.getElem?_cons_succ] at y0 y1 y2 y3 y4 y5 y6 y7 y8
        clear hI hf
        go_wp2_with fail
        refine (tells_any gA k gc ((List.range k).map fun i => cut6 (d i).g) wr (by simp) HF.out (by omega) (cut_tlF d k)).mono ?_
        rintro e w9 ⟨rfl, hb9⟩
        have HB9 := Lib.hid (HB.out.trans (hb9.mono HB.out.size))
        clear hb9
        go_wp2_with fail
        go_ret
        exact ⟨by first | rfl | trivial, HB9.out⟩
    · have hd1 : decide (k < n) = false := decide_eq_false hkn
      have hf := hI.fat HD0.out hk6
      have HF := Lib.hid hf
      have HX := Lib.hid hI.box
      have HB := Lib.hid hI.below
      have y0 := hI.box.cell 0
      have y1 := hI.box.cell 1
      have y2 := hI.box.cell 2
      have y3 := hI.box.cell 3
      have y4 := hI.box.cell 4
      have y5 := hI.box.cell 5
      have y6 := hI.box.cell 6
      have y7 := hI.box.cell 7
      have y8 := hI.box.cell 8
      have yl := hI.box.lt
      simp only [List.getElem?_toArray, List.getElem?_cons_zero, List.getElem?_cons_succ] at y0 y1 y2 y3 y4 y5 y6 y7 y8
      clear hI hf
      go_wp2_with fail
      refine (tells_any gA k gc ((List.range k).map fun i => cut6 (d i).g) wr (by simp) HF.out (by omega) (cut_tlF d k)).mono ?_
      rintro e w9 ⟨rfl, hb9⟩
      have HB9 := Lib.hid (HB.out.trans (hb9.mono HB.out.size))
      clear hb9
      go_wp2_with fail
      go_ret
      exact ⟨by first | rfl | trivial, HB9.out⟩
end Go.Proofs.Ytoklllbaihccnaa

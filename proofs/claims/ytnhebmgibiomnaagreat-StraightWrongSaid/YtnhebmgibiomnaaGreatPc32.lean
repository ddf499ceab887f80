/- Parts of the proof, joined: BuR. -/
import Derived.Test.YtnhebmgibiomnaaGreatPc31
set_option linter.unusedVariables false
set_option linter.unusedSimpArgs false
namespace Go.Proofs.YtnhebmgibiomnaaGreat
namespace Sm
open Mc Hd
def OkX (c : List Sr.Reg) (e : Nat) : Prop := ∀ (i : Nat) r, c[i]? = some r → r.op ≠ 42 ∧ (Sr.uses r.op).2 = true ∧ Sr.there r (Sr.uses r.op).1 = true ∧ (Sr.leaps r.op = true → 0 ≤ r.n ∧ (i : Int) + 1 + r.n ≤ c.length + e)
theorem OkX.mono {c : List Sr.Reg} {e e' : Nat} (h : OkX c e) (he : e ≤ e') : OkX c e' := fun i r hr => by
  obtain ⟨h1, h2, h3, h4⟩ := h i r hr
  exact ⟨h1, h2, h3, fun hl => by have := h4 hl; omega⟩
theorem okX_nil (e : Nat) : OkX [] e := fun i r h => by simp at h
theorem okX_one {r : Sr.Reg} {e : Nat} (h42 : r.op ≠ 42) (hu : (Sr.uses r.op).2 = true) (ht : Sr.there r (Sr.uses r.op).1 = true) (hl : Sr.leaps r.op = true → 0 ≤ r.n ∧ r.n ≤ e) : OkX [r] e := fun i r' hr => by
  have : i = 0 := by
    have := (List.getElem?_eq_some_iff.1 hr).1
    simp only [List.length_cons, List.length_nil] at this
    omega
  subst this
  simp only [List.getElem?_cons_zero, Option.some.injEq] at hr
  subst hr
  exact ⟨h42, hu, ht, fun h => by have := hl h; simp only [List.length_cons, List.length_nil]; omega⟩
theorem OkX.append {a b : List Sr.Reg} {e : Nat} (h : OkX a (b.length + e)) (k : OkX b e) : OkX (a ++ b) e := fun i r hr => by
  by_cases hi : i < a.length
  · rw [List.getElem?_append_left hi] at hr
    obtain ⟨h1, h2, h3, h4⟩ := h i r hr
    exact ⟨h1, h2, h3, fun hl => by have := h4 hl; rw [List.length_append]; omega⟩
  · rw [List.getElem?_append_right (by omega)] at hr
    obtain ⟨h1, h2, h3, h4⟩ := k (i - a.length) r hr
    exact ⟨h1, h2, h3, fun hl => by have := h4 hl; rw [List.length_append]; omega⟩
theorem okX_flat {g : Nat → List Sr.Reg} {off : Nat → Nat} (h0 : off 0 = 0) : ∀ (n : Nat) (e : Nat), (∀ k, k < n → off (k + 1) = off k + (g k).length) → (∀ k, k < n → OkX (g k) (off n - off (k + 1) + e)) → OkX ((List.range n).flatMap g) e ∧ ((List.range n).flatMap g).length = off n := by
  intro n
  induction n with
  | zero => intro e _ _; exact ⟨okX_nil _, by simp [h0]⟩
  | succ n ih =>
    intro e hs h
    have hmono : ∀ d k, k + d ≤ n + 1 → off k ≤ off (k + d) := by
      intro d
      induction d with
      | zero => intro k _; exact Nat.le_refl _
      | succ d ih => intro k hk; have := ih k (by omega); have := hs (k + d) (by omega); rw [← Nat.add_assoc]; omega
    have hn := hs n (by omega)
    obtain ⟨h1, h2⟩ := ih ((g n).length + e) (fun k hk => hs k (by omega)) fun k hk => by
      have := h k (by omega)
      have h3 := hmono (n - (k + 1)) (k + 1) (by omega)
      rw [show k + 1 + (n - (k + 1)) = n by omega] at h3
      exact this.mono (by omega)
    rw [List.range_succ, List.flatMap_append, List.flatMap_singleton]
    have h3 := h n (by omega)
    rw [Nat.sub_self, Nat.zero_add] at h3
    exact ⟨h1.append h3, by rw [List.length_append, h2, hn]⟩
theorem rg_of {n : Int} (h : 0 ≤ n ∧ n < 64) : Sr.rg n = true := by unfold Sr.rg; simpa using h
theorem there_of {r : Sr.Reg} (u : Int) (hd : u % 2 = 0 ∨ (0 ≤ r.d ∧ r.d < 64)) (ha : u / 2 % 2 = 0 ∨ (0 ≤ r.a ∧ r.a < 64)) (hb : u / 4 % 2 = 0 ∨ (0 ≤ r.b ∧ r.b < 64)) : Sr.there r u = true := by
  unfold Sr.there
  simp only [Bool.and_eq_true, Bool.or_eq_true, decide_eq_true_eq]
  exact ⟨⟨hd.imp id rg_of, ha.imp id rg_of⟩, hb.imp id rg_of⟩
theorem uses_ok {op : Int} (h : 1 ≤ op ∧ op ≤ 39) (hn : op ≠ 1 ∧ op ≠ 2 ∧ op ≠ 3 ∧ op ≠ 4 ∧ op ≠ 35 ∧ op ≠ 36 ∧ op ≠ 37 ∧ op ≠ 38 ∧ op ≠ 39) : (Sr.uses op).2 = true := by
  have hc : op = 5 ∨ op = 6 ∨ op = 7 ∨ op = 8 ∨ op = 9 ∨ op = 10 ∨ op = 11 ∨ op = 12 ∨ op = 13 ∨ op = 14 ∨ op = 15 ∨ op = 16 ∨ op = 17 ∨ op = 18 ∨ op = 19 ∨ op = 20 ∨ op = 21 ∨ op = 22 ∨ op = 23 ∨ op = 24 ∨ op = 25 ∨ op = 26 ∨ op = 27 ∨ op = 28 ∨ op = 29 ∨ op = 30 ∨ op = 31 ∨ op = 32 ∨ op = 33 ∨ op = 34 := by omega
  clear h hn
  rcases hc with rfl | rfl | rfl | rfl | rfl | rfl | rfl | rfl | rfl | rfl | rfl | rfl | rfl | rfl | rfl | rfl | rfl | rfl | rfl | rfl | rfl | rfl | rfl | rfl | rfl | rfl | rfl | rfl | rfl | rfl
  all_goals decide
theorem no_leap {op : Int} (h : Sr.leaps op = false) {P : Prop} : Sr.leaps op = true → P := fun e => by rw [h] at e; cases e
theorem stepE_ok (es : List Bu.Emit) {op a next : Int} (loops : Nat) (e : Nat) (hop : 1 ≤ op ∧ op ≤ 39) (hc : op ≠ 35 ∧ op ≠ 36 ∧ op ≠ 37 ∧ op ≠ 38) (h1 : (takes op : Int) ≤ next) (h2 : next + leaves op ≤ 32 + takes op) : OkX (Bu.stepE es (op, a) next loops) e := by
  obtain ⟨c35, c36, c37, c38⟩ := hc
  by_cases hb : op = 1 ∨ op = 2 ∨ op = 3 ∨ op = 4 ∨ op = 39
  · rcases hb with rfl | rfl | rfl | rfl | rfl
    · have t1 : takes 1 = 0 := rfl
      have t2 : leaves 1 = 1 := rfl
      exact okX_one (by simp) rfl (there_of 1 (.inr (by simp only; omega)) (.inl (by decide)) (.inl (by decide))) (no_leap rfl)
    · exact okX_nil _
    · have t1 : takes 3 = 1 := rfl
      have t2 : leaves 3 = 2 := rfl
      exact okX_one (by simp) rfl (there_of 3 (.inr (by simp only; omega)) (.inr (by simp only; omega)) (.inl (by decide))) (no_leap rfl)
    · have t1 : takes 4 = 2 := rfl
      have t2 : leaves 4 = 2 := rfl
      refine OkX.append (a := [⟨40, 63, next - 1, 0, 0⟩]) (okX_one (by simp) rfl (there_of 3 (.inr (by simp only; omega)) (.inr (by simp only; omega)) (.inl (by decide))) (no_leap rfl)) (OkX.append (a := [⟨40, next - 1, next - 2, 0, 0⟩]) (b := [⟨40, next - 2, 63, 0, 0⟩]) (okX_one (by simp) rfl (there_of 3 (.inr (by simp only; omega)) (.inr (by simp only; omega)) (.inl (by decide))) (no_leap rfl)) (okX_one (by simp) rfl (there_of 3 (.inr (by simp only; omega)) (.inr (by simp only; omega)) (.inl (by decide))) (no_leap rfl)))
    · have t1 : takes 39 = 0 := rfl
      have t2 : leaves 39 = 1 := rfl
      exact okX_one (by simp) rfl (there_of 1 (.inr (by simp only; omega)) (.inl (by decide)) (.inl (by decide))) (no_leap rfl)
  · have hn : op ≠ 1 ∧ op ≠ 2 ∧ op ≠ 3 ∧ op ≠ 4 ∧ op ≠ 35 ∧ op ≠ 36 ∧ op ≠ 37 ∧ op ≠ 38 ∧ op ≠ 39 := by omega
    have hlp : Sr.leaps op = false := leaps_not (by omega)
    have hu2 := uses_ok hop hn
    rw [stepE_plain es a next loops hn]
    unfold Bu.plainE
    simp only
    rcases uses_of hop hn with ⟨hu, ht, hl⟩ | ⟨hu, ht, hl⟩ | ⟨hu, ht, hl⟩ | ⟨ho, hu, ht, hl⟩
    · rw [if_pos hu]
      exact okX_one (by show op ≠ 42; omega) hu2 (by simp only; rw [hu]; exact there_of 3 (.inr (by simp only; omega)) (.inr (by simp only; omega)) (.inl (by decide))) (no_leap hlp)
    · rw [if_neg (by omega), if_pos hu]
      exact okX_one (by show op ≠ 42; omega) hu2 (by simp only; rw [hu]; exact there_of 7 (.inr (by simp only; omega)) (.inr (by simp only; omega)) (.inr (by simp only; omega))) (no_leap hlp)
    · rw [if_neg (by omega), if_neg (by omega), if_pos hu]
      exact okX_one (by show op ≠ 42; omega) hu2 (by simp only; rw [hu]; exact there_of 6 (.inl (by decide)) (.inr (by simp only; omega)) (.inr (by simp only; omega))) (no_leap hlp)
    · rw [if_neg (by omega), if_neg (by omega), if_neg (by omega)]
      exact okX_one (by show op ≠ 42; omega) hu2 (by simp only; rw [hu]; exact there_of 0 (.inl (by decide)) (.inl (by decide)) (.inl (by decide))) (no_leap hlp)
theorem loopE_ok {body : List Sr.Reg} (h : OkX body 0) (loops : Nat) (hl : loops ≤ 20) {top : Int} (ht : 0 ≤ top ∧ top < 64) (e : Nat) : OkX (Bu.loopE body top loops) e := by
  unfold Bu.loopE
  refine OkX.append (a := [⟨40, 32 + (loops : Int), top, 0, 0⟩]) (okX_one (by simp) rfl (there_of 3 (.inr (by simp only; omega)) (.inr (by simp only; omega)) (.inl (by decide))) (no_leap rfl)) ?_
  refine (okX_flat (off := fun k => k * (1 + body.length)) (by simp) 16 e (fun k _ => by simp only [List.length_cons, Nat.succ_mul]; omega) fun k hk => ?_).1
  refine OkX.append (a := [⟨41, 0, 32 + (loops : Int), (k : Int), (16 - (k : Int)) * (1 + (body.length : Int)) - 1⟩]) (okX_one (by simp) rfl (there_of 2 (.inl (by decide)) (.inr (by simp only; omega)) (.inl (by decide))) fun _ => ?_) (h.mono (by omega))
  have h16 : k = 0 ∨ k = 1 ∨ k = 2 ∨ k = 3 ∨ k = 4 ∨ k = 5 ∨ k = 6 ∨ k = 7 ∨ k = 8 ∨ k = 9 ∨ k = 10 ∨ k = 11 ∨ k = 12 ∨ k = 13 ∨ k = 14 ∨ k = 15 := by omega
  simp only
  rcases h16 with rfl | rfl | rfl | rfl | rfl | rfl | rfl | rfl | rfl | rfl | rfl | rfl | rfl | rfl | rfl | rfl <;> omega
def GoodC (es : List Bu.Emit) (j : Nat) (c : Bd.Cost) : Prop := ∀ (h : Int) (loops : Nat), c.need ≤ h → h + c.peak ≤ 32 → loops + j ≤ 20 → OkX (Bu.em es j h loops) 0
theorem code_okC {l : List (Int × Int)} {fs : List Bd.Cost} {ps : List Bu.Plan} {c : Bd.Cost} {P : List Bd.Place} {es : List Bu.Emit} (htab : Tab l.length fs l c P) (hg : ∀ i ci, fs[i]? = some ci → GoodC es i ci) (h0 : Int) (loops : Nat) (hn : c.need ≤ h0) (hp : h0 + c.peak ≤ 32) (hl : loops + fs.length ≤ 20) : OkX (Bu.emitE es (Bu.planned l fs ps) h0 loops) 0 := by
  have hsrc := Bu.planned_src ps htab
  have hpl := Bu.planned_of ps htab
  generalize Bu.planned l fs ps = p at *
  have hpn : (Bu.pieces es p h0 loops).length = p.steps.length := Bu.pieces_len es p h0 loops
  have hpc : ∀ (i : Nat) s, p.steps[i]? = some s → (Bu.pieces es p h0 loops)[i]? = some (Bu.stepE es (s.op, s.a) (h0 + s.high) loops) := fun i s hs => by
    unfold Bu.pieces
    rw [List.getElem?_map, hs]
    rfl
  have hfl := Bu.fixed_len (Bu.pieces es p h0 loops) p.steps
  unfold Bu.emitE
  simp only
  generalize Bu.pieces es p h0 loops = ls at *
  refine (okX_flat (off := Bu.begins ls) (by simp [Bu.begins]) p.steps.length 0 (fun k hk => ?_) fun k hk => ?_).1
  · rw [hfl]
    exact (Bu.begins_succ ls (by rw [List.getD_eq_getElem?_getD, List.getElem?_eq_getElem (by omega)]; rfl)).1
  · obtain ⟨s, hs⟩ : ∃ s, p.steps[k]? = some s := ⟨_, List.getElem?_eq_getElem hk⟩
    have hls := hpc k s hs
    obtain ⟨i, x, hx, hki, hci, hz, rfl⟩ := hsrc k s hs
    have hlt := (List.getElem?_eq_some_iff.1 hx).1
    have hok := htab.ok i x hx
    obtain ⟨a1, a2, a3⟩ := always_ok hok.al
    obtain ⟨b1, b2, b3, b4⟩ := hok.kn (hpl.known i (by omega) hki)
    have ht := takes_eq x.1
    have hle := leaves_eq x.1
    have c1 : (takes x.1 : Int) ≤ h0 + (Bd.pat P i).high := by
      by_cases hc : x.1 = 37 ∨ x.1 = 38
      · rw [effect_call hc] at b1; simp only at b1; omega
      · rw [effect_plain hc] at b1; simp only at b1; omega
    have c2 : h0 + (Bd.pat P i).high + leaves x.1 ≤ 32 + takes x.1 := by
      by_cases hc : x.1 = 37 ∨ x.1 = 38
      · rw [effect_call hc] at b2; simp only at b2; omega
      · rw [effect_plain hc] at b2; simp only at b2; omega
    have hbs := (Bu.begins_succ ls hls).1
    have hfx : Bu.fixed ls p.steps k = if Bu.isJump x.1 then Bu.setN (Bu.stepE es x (h0 + (Bd.pat P i).high) loops) ((Bu.begins ls (Bu.cnt fs ps l (i + 1 + Bu.jump x)) : Int) - Bu.begins ls k - 1) else Bu.stepE es x (h0 + (Bd.pat P i).high) loops := by
      unfold Bu.fixed
      simp only [hs]
      rw [List.getD_eq_getElem?_getD, hls]
      rfl
    rw [hfx]
    by_cases hjm : x.1 = 35 ∨ x.1 = 36
    · rw [if_pos (by unfold Bu.isJump; simpa using hjm)]
      have hj : Bu.jump x = x.2.toNat := by unfold Bu.jump; rw [if_pos hjm]
      have htl : i + 1 + Bu.jump x ≤ l.length := by have := a2 hjm; omega
      have hstp := (hpl.step i x hx hki).2
      have hc1 : Bu.cnt fs ps l (i + 1) = k + 1 := by
        rcases hstp with ⟨_, _, q⟩ | ⟨q, _⟩
        · omega
        · omega
      have hcm := Bu.cnt_mono fs ps l (i := i + 1) (j := i + 1 + Bu.jump x) (by omega) htl
      have hcf := Bu.cnt_mono fs ps l (i := i + 1 + Bu.jump x) (j := l.length) htl (Nat.le_refl _)
      rw [hpl.fin] at hcf
      have hb1 := Bu.begins_le ls _ _ hcm
      have hb2 := Bu.begins_le ls _ _ hcf
      rw [hc1] at hb1
      rcases hjm with h35 | h36
      · have hsE : Bu.stepE es x (h0 + (Bd.pat P i).high) loops = [⟨35, 0, 0, 0, 0⟩] := by
          unfold Bu.stepE
          rw [h35]
          simp
        have hbs : Bu.begins ls (k + 1) = Bu.begins ls k + 1 := by
          rw [hbs]
          show _ + (Bu.stepE es x (h0 + (Bd.pat P i).high) loops).length = _
          rw [hsE]
          rfl
        rw [hsE]
        exact okX_one (by show (35 : Int) ≠ 42; omega) rfl (there_of 0 (.inl (by decide)) (.inl (by decide)) (.inl (by decide))) fun _ => by
          show 0 ≤ (Bu.begins ls (Bu.cnt fs ps l (i + 1 + Bu.jump x)) : Int) - Bu.begins ls k - 1 ∧ (Bu.begins ls (Bu.cnt fs ps l (i + 1 + Bu.jump x)) : Int) - Bu.begins ls k - 1 ≤ _
          omega
      · have htk : takes x.1 = 1 := by rw [h36]; rfl
        have htv : leaves x.1 = 0 := by rw [h36]; rfl
        have hsE : Bu.stepE es x (h0 + (Bd.pat P i).high) loops = [⟨36, 0, h0 + (Bd.pat P i).high - 1, 0, 0⟩] := by
          unfold Bu.stepE
          rw [h36]
          simp
        have hbs : Bu.begins ls (k + 1) = Bu.begins ls k + 1 := by
          rw [hbs]
          show _ + (Bu.stepE es x (h0 + (Bd.pat P i).high) loops).length = _
          rw [hsE]
          rfl
        rw [hsE]
        exact okX_one (by show (36 : Int) ≠ 42; omega) rfl (there_of 2 (.inl (by decide)) (.inr (by show 0 ≤ h0 + (Bd.pat P i).high - 1 ∧ h0 + (Bd.pat P i).high - 1 < 64; omega)) (.inl (by decide))) fun _ => by
          show 0 ≤ (Bu.begins ls (Bu.cnt fs ps l (i + 1 + Bu.jump x)) : Int) - Bu.begins ls k - 1 ∧ (Bu.begins ls (Bu.cnt fs ps l (i + 1 + Bu.jump x)) : Int) - Bu.begins ls k - 1 ≤ _
          omega
    · rw [if_neg (by rw [not_jump hjm]; decide)]
      by_cases hc : x.1 = 37 ∨ x.1 = 38
      · obtain ⟨q1, q2⟩ := a3 hc
        obtain ⟨j, hj⟩ : ∃ j : Nat, x.2 = j := ⟨x.2.toNat, by omega⟩
        have hjl : j < fs.length := by omega
        obtain ⟨cj, hcj⟩ : ∃ cj, fs[j]? = some cj := ⟨fs[j], List.getElem?_eq_getElem hjl⟩
        have hG := hg j cj hcj
        have hfn : Bd.fn fs x.2 = cj := by unfold Bd.fn; rw [hj, List.getD_eq_getElem?_getD, Int.toNat_natCast, hcj]; rfl
        rw [effect_call hc, hfn] at b1 b2
        simp only at b1 b2
        rcases hc with hc | hc
        · have htk : takes x.1 = 0 ∧ leaves x.1 = 0 := by rw [hc]; exact ⟨rfl, rfl⟩
          have hsE : Bu.stepE es x (h0 + (Bd.pat P i).high) loops = Bu.em es j (h0 + (Bd.pat P i).high) loops := by
            unfold Bu.stepE
            rw [hc, hj]
            simp
          rw [hsE]
          exact (hG _ loops (by omega) (by omega) (by omega)).mono (by omega)
        · have htk : takes x.1 = 1 ∧ leaves x.1 = 0 := by rw [hc]; exact ⟨rfl, rfl⟩
          have hsE : Bu.stepE es x (h0 + (Bd.pat P i).high) loops = Bu.loopE (Bu.em es j (h0 + (Bd.pat P i).high - 1) ((loops + 1 : Nat) : Int)) (h0 + (Bd.pat P i).high - 1) loops := by
            unfold Bu.stepE
            rw [hc, hj]
            simp
          rw [hsE]
          exact loopE_ok (hG _ (loops + 1) (by omega) (by omega) (by omega)) loops (by omega) (by omega) _
      · exact stepE_ok es loops _ a1 ⟨by omega, by omega, by omega, by omega⟩ c1 c2
theorem okC_all {ll : List (List (Int × Int))} {fs : List Bd.Cost} {ps : List Bu.Plan} {es : List Bu.Emit} (h : Bu.All ll fs ps es) : ∀ (j : Nat) lj, ll[j]? = some lj → ∃ cj, fs[j]? = some cj ∧ GoodC es j cj := by
  intro j
  induction j using Nat.strongRecOn with
  | _ j ih =>
  intro lj hj
  obtain ⟨cj, P, hcj, hcode, hP, hpl, hp, hem, _⟩ := h.fn j lj hj
  have hjl := (List.getElem?_eq_some_iff.1 hj).1
  have hfl := h.fl
  have htl : (fs.take j).length = j := by rw [List.length_take]; omega
  refine ⟨cj, hcj, fun h0 loops h1 h2 h3 => ?_⟩
  rw [hem]
  refine code_okC hP (fun i ci hi => ?_) h0 loops h1 h2 (by omega)
  have hij := (List.getElem?_eq_some_iff.1 hi).1
  rw [htl] at hij
  rw [List.getElem?_take, if_pos hij] at hi
  obtain ⟨ci', q1, q2⟩ := ih i hij _ (List.getElem?_eq_getElem (by omega))
  rw [hi] at q1
  injection q1 with q1
  subst q1
  exact q2
theorem stepE_len {es : List Bu.Emit} {ps : List Bu.Plan} {x : Int × Int} (h0 : 0 < Bu.sizeOf x ps) (h1 : (x.1 = 37 ∨ x.1 = 38) → ∀ high loops, ((Bu.em es x.2 high loops).length : Int) ≤ (Bu.pl ps x.2).size) (next loops : Int) : ((Bu.stepE es x next loops).length : Int) ≤ Bu.sizeOf x ps := by
  unfold Bu.stepE
  split
  · simp only [List.length_nil]; omega
  · split
    · simp only [List.length_cons, List.length_nil]; omega
    · split
      · simp only [List.length_cons, List.length_nil]; omega
      · split
        · simp only [List.length_cons, List.length_nil]; omega
        · split
          · rename_i h4
            unfold Bu.sizeOf
            rw [if_pos h4]
            simp
          · split
            · simp only [List.length_cons, List.length_nil]; omega
            · split
              · simp only [List.length_cons, List.length_nil]; omega
              · split
                · rename_i h4 _ _ h37
                  have := h1 (.inl h37) next loops
                  unfold Bu.sizeOf
                  rw [if_neg h4, if_pos h37]
                  exact this
                · split
                  · rename_i h4 _ _ h37 h38
                    have := h1 (.inr h38) (next - 1) (loops + 1)
                    unfold Bu.sizeOf
                    rw [if_neg h4, if_neg h37, if_pos h38, loopE_len]
                    omega
                  · unfold Bu.plainE
                    (repeat' split) <;> (simp only [List.length_cons, List.length_nil]; omega)
theorem flat_sum (es : List Bu.Emit) (ps : List Bu.Plan) (high loops : Int) : ∀ (l : List Bu.PS), (∀ s ∈ l, ((Bu.stepE es (s.op, s.a) (high + s.high) loops).length : Int) ≤ Bu.sizeOf (s.op, s.a) ps) → (((l.map fun s => Bu.stepE es (s.op, s.a) (high + s.high) loops).flatten.length : Nat) : Int) ≤ Bu.sumZ ps l
  | [], _ => by simp [Bu.sumZ]
  | s :: l, h => by
    have h1 := flat_sum es ps high loops l fun t ht => h t (by simp [ht])
    have h2 := h s (by simp)
    have e : Bu.sumZ ps (s :: l) = Bu.sizeOf (s.op, s.a) ps + Bu.sumZ ps l := by unfold Bu.sumZ; simp
    rw [List.map_cons, List.flatten_cons, List.length_append, e]
    omega
theorem planned_len {fs : List Bd.Cost} {ps : List Bu.Plan} {es : List Bu.Emit} {l : List (Int × Int)} {c : Bd.Cost} {P : List Bd.Place} (h : Tab l.length fs l c P) (hg : ∀ j : Nat, j < fs.length → (Bu.pl ps j).size ≤ 20000 → ∀ high loops, ((Bu.em es j high loops).length : Int) ≤ (Bu.pl ps j).size) (hs : (Bu.planned l fs ps).size ≤ 20000) (hb : ∀ j : Nat, j < fs.length → 0 ≤ (Bu.pl ps j).size) (high loops : Int) : ((Bu.emitE es (Bu.planned l fs ps) high loops).length : Int) ≤ (Bu.planned l fs ps).size := by
  obtain ⟨h1, h2⟩ := Bu.planned_size fs ps l
  obtain ⟨_, h3⟩ := Bu.sumZ_nonneg ps _ fun s hs => (h2 s hs).1
  rw [Bu.emitE_len]
  refine Int.le_trans (flat_sum es ps high loops _ fun s hst => stepE_len (h2 s hst).1 (fun hc hi lo => ?_) _ _) (by omega)
  obtain ⟨q1, q2⟩ := Bu.tab_calls h _ (h2 s hst).2 hc
  simp only at q1 q2 hc
  obtain ⟨j, hj⟩ : ∃ j : Nat, s.a = j := ⟨s.a.toNat, by omega⟩
  have hsz := h3 s hst
  have hbj := hb j (by omega)
  simp only
  rw [hj]
  refine hg j (by omega) ?_ hi lo
  rw [hj] at hsz
  unfold Bu.sizeOf at hsz
  rcases hc with hc | hc
  · rw [if_neg (by simp only; omega), if_pos hc] at hsz
    simp only at hsz
    omega
  · rw [if_neg (by simp only; omega), if_neg (by simp only; omega), if_pos hc] at hsz
    simp only at hsz
    omega
theorem len_all {ll : List (List (Int × Int))} {fs : List Bd.Cost} {ps : List Bu.Plan} {es : List Bu.Emit} (h : Bu.All ll fs ps es) : ∀ (j : Nat), j < ll.length → 0 ≤ (Bu.pl ps j).size ∧ (Bu.pl ps j).size ≤ 20001 ∧ ((Bu.pl ps j).size ≤ 20000 → ∀ high loops, ((Bu.em es j high loops).length : Int) ≤ (Bu.pl ps j).size) := by
  intro j
  induction j using Nat.strongRecOn with
  | _ j ih =>
  intro hjl
  obtain ⟨cj, P, hcj, hcode, hP, hpl, hp, hem, _⟩ := h.fn j _ (List.getElem?_eq_getElem hjl)
  have hfl := h.fl
  have htl : (fs.take j).length = j := by rw [List.length_take]; omega
  obtain ⟨b1, b2, _⟩ := Bu.planned_bds (fs.take j) ps ll[j]
  rw [hpl, hem]
  exact ⟨b1, b2, fun hs hi lo => planned_len hP (fun i hi => (ih i (by omega) (by omega)).2.2) hs (fun i hi => (ih i (by omega) (by omega)).1) hi lo⟩
theorem fitsAll_of : ∀ (code : List Sr.Reg), (∀ (i : Nat) r, code[i]? = some r → Sr.fits r ((code.length : Int) - 1 - i) = true) → Sr.fitsAll code = true
  | [], _ => rfl
  | x :: l, h => by
    have h0 := h 0 x rfl
    rw [show (((x :: l).length : Nat) : Int) - 1 - (0 : Nat) = l.length by rw [List.length_cons]; omega] at h0
    unfold Sr.fitsAll
    rw [h0, Bool.true_and]
    refine fitsAll_of l fun i r hr => ?_
    have := h (i + 1) r (by simpa using hr)
    rwa [show (((x :: l).length : Nat) : Int) - 1 - ((i + 1 : Nat) : Int) = (l.length : Int) - 1 - i by rw [List.length_cons]; omega] at this
theorem right_end {T : List Sr.Reg} {n : Int} (h : OkX T 0) (hl : T.length ≤ 79999) (hn : 0 ≤ n ∧ n ≤ 64) : Sr.right (T ++ [⟨42, 0, 0, 0, n⟩]) = true := by
  unfold Sr.right
  rw [List.getLast?_concat]
  simp only [Bool.and_eq_true, decide_eq_true_eq, List.length_append, List.length_singleton]
  refine ⟨⟨by omega, fitsAll_of _ fun i r hr => ?_⟩, hn⟩
  rw [List.length_append, List.length_singleton]
  by_cases hi : i < T.length
  · rw [List.getElem?_append_left hi] at hr
    obtain ⟨h1, h2, h3, h4⟩ := h i r hr
    unfold Sr.fits
    rw [h2, h3]
    have e1 : decide (r.op = 42) = false := by simpa using h1
    have e2 : decide (((T.length + 1 : Nat) : Int) - 1 - i = 0) = false := by simp; omega
    rw [e1, e2]
    cases hlp : Sr.leaps r.op with
    | false => rfl
    | true =>
      have := h4 hlp
      have e3 : decide (0 ≤ r.n ∧ r.n < ((T.length + 1 : Nat) : Int) - 1 - i) = true := by simp; omega
      rw [e3]
      rfl
  · have hi2 : i - T.length = 0 := by
      rw [List.getElem?_append_right (by omega)] at hr
      have := (List.getElem?_eq_some_iff.1 hr).1
      simp only [List.length_cons, List.length_nil] at this
      omega
    rw [List.getElem?_append_right (by omega), hi2] at hr
    simp only [List.getElem?_cons_zero, Option.some.injEq] at hr
    subst hr
    obtain rfl : i = T.length := by omega
    unfold Sr.fits
    have e2 : decide (((T.length + 1 : Nat) : Int) - 1 - (T.length : Int) = 0) = true := by simp
    rw [e2]
    rfl
theorem build_right {ll : List (List (Int × Int))} {l : List (Int × Int)} {code : List Sr.Reg} (hb : Bu.build ll l = (code, 0)) : Sr.right code = true ∧ code.length ≤ 20000 := by
  have hb0 := hb
  unfold Bu.build at hb
  simp only at hb
  split at hb
  · rename_i hne
    injection hb with _ hb
    exact absurd hb hne
  · rename_i hpz
    rcases hpr : Bd.program ll l with ⟨c, e⟩
    rw [hpr] at hpz hb
    simp only [ne_eq, Classical.not_not] at hpz
    subst hpz
    split at hb
    · simp at hb
    · rename_i hov
      injection hb with hb _
      have h := hpr
      unfold Bd.program at h
      split at h
      · rename_i hne
        simp at h
        exact absurd h.2 hne
      · rename_i hz
        have hA := Bu.all_of (ll := ll) (by omega)
        generalize (Bd.funcs ll).1 = fs at *
        generalize Bu.plans fs ll [] = ps at *
        generalize Bu.emits ps [] = es at *
        unfold Bd.whole at h
        split at h
        · rename_i hne
          simp at h
          exact absurd h.2 hne
        · rename_i hz2
          split at h
          · simp at h
          · rename_i hnd
            injection h with hcc _
            have hcode := Bu.code_zero (l := l) (cs := fs) (by omega)
            rw [hcc] at hcode hnd
            obtain ⟨P, hP⟩ := code_tab hcode
            have hfl := hA.fl
            have h20 := hA.l20
            have hpk := hP.k1
            have hlen := planned_len hP (fun i hi => (len_all hA i (by omega)).2.2) (by omega) (fun i hi => (len_all hA i (by omega)).1) 0 0
            have hok : OkX (Bu.emitE es (Bu.planned l fs ps) 0 ((0 : Nat) : Int)) 0 := code_okC hP (fun i ci hi => by
              have hij := (List.getElem?_eq_some_iff.1 hi).1
              obtain ⟨ci', q1, q2⟩ := okC_all hA i _ (List.getElem?_eq_getElem (by omega))
              rw [hi] at q1
              injection q1 with q1
              subst q1
              exact q2) 0 0 (by omega) (by omega) (by omega)
            have hd := (build_sim hpr hb0 [] 0 ⟨[], [], [], []⟩).2.2.2.2
            rw [← hb]
            exact ⟨right_end hok (by have := hlen; omega) (by simp only; omega), by rw [List.length_append, List.length_singleton]; omega⟩
end Sm
end Go.Proofs.YtnhebmgibiomnaaGreat

/- Arguments of a law as data; the last step of a law's row. -/
import Derived.Test.YtfkidjkpgliffaaPuV
import Derived.ProofKit
import Derived.OpenShut
import Derived.ChangeSame
import Derived.Deep.Slices
namespace Go.Proofs.Ytfkidjkpgliffaa
open Go.ChangeShapes Go.WideShapes Go.ChangeAt Go.WideMaps Go.WideElems Go.RowKit
theorem ownKnob_ : ownKnob Try.prog.godebug = none := by kernel_rfl
theorem i64_of_wf {n : Int} (h : (Lit.int .i64 n).wf = true) : -9223372036854775808 ≤ n ∧ n ≤ 9223372036854775807 := bounds_i64 h

/-- Numbers are in their ranges. -/
def Ty.ok : (t : Ty) → t.D → Prop
  | .int k, x => (Lit.int k x).wf = true
  | .bool, _ => True
  | .str, _ => True
  | .sl e, xs => xs.length ≤ 9223372036854775807 ∧ ∀ x ∈ xs, e.ok x
  | .pair a b, x => a.ok x.1 ∧ b.ok x.2
  | .st a, x => a.ok x
/-- A type of the program has this form. -/
def repFs (rp : TypeId → Ty → Bool) (cells : TypeId → Nat) : List Field → Ty → Nat → Bool
  | [], _, _ => false
  | [f], a, off => rp f.type a && Nat.beq f.offset off && Nat.beq (cells f.type) a.n
  | f :: g :: fs, .pair a b, off => rp f.type a && Nat.beq f.offset off && Nat.beq (cells f.type) a.n && repFs rp cells (g :: fs) b (off + a.n)
  | _, _, _ => false
def repA (rp : Ty → Bool) (n : Nat) : Nat → Ty → Bool
  | 0, _ => false
  | 1, a => rp a && Nat.beq a.n n
  | k + 2, .pair a b => rp a && Nat.beq a.n n && repA rp n (k + 1) b
  | _, _ => false
def rep (P : Program) : Nat → TypeId → Ty → Bool
  | 0, _, _ => false
  | n + 1, t, ty => match P.underlying t, ty with
    | some (.int k), .int k' => decide (k = k')
    | some .bool, .bool => true
    | some .string, .str => true
    | some (.slice e), .sl ety => rep P n e ety && Nat.beq (P.cellsOf e) ety.n && Nat.ble 1 ety.n
    | some (.struct fs), .st a => repFs (rep P n) P.cellsOf fs.toList a 0 && Nat.beq (P.cellsOf t) a.n
    | some (.array k e), .st a => repA (rep P n e) (P.cellsOf e) k a && Nat.beq (P.cellsOf t) a.n
    | _, _ => false

theorem cell_lt {w : World} {a : Addr} {v : Value} (h : w.cell? a = some v) : a.block < w.heap.size ∧ a.spot = none := by
  unfold World.cell? at h
  split at h
  · rename_i hb
    refine ⟨(Array.getElem?_eq_some_iff.1 hb).1, ?_⟩
    split at h
    · cases h
    · rename_i hn; simpa using hn
  · cases h
theorem mapM_get {α β : Type} {f : α → Option β} : ∀ {l : List α} {r : List β}, l.mapM f = some r → r.length = l.length ∧ ∀ (j : Nat) (y : β), r[j]? = some y → ∃ x, l[j]? = some x ∧ f x = some y
  | [], r, h => by simp at h; subst h; simp
  | x :: l, r, h => by
    rw [List.mapM_cons] at h
    cases hx : f x with
    | none => rw [hx] at h; simp at h
    | some y =>
      rw [hx] at h
      cases hl : l.mapM f with
      | none => rw [hl] at h; simp at h
      | some r' =>
        rw [hl] at h
        obtain rfl : y :: r' = r := by simpa using h
        obtain ⟨h1, h2⟩ := mapM_get hl
        refine ⟨by simp [h1], fun j z hz => ?_⟩
        cases j with
        | zero => exact ⟨x, rfl, by simpa [hx] using hz⟩
        | succ j => obtain ⟨u, h3, h4⟩ := h2 j z (by simpa using hz); exact ⟨u, by simpa using h3, h4⟩
theorem cells_get {w : World} {base n : Nat} {a : Addr} {l : List Value} (h : w.cells? base a n = some l) : l.length = n ∧ ∀ (j : Nat) (v : Value), l[j]? = some v → w.cell? (a.add j) = some v := by
  unfold World.cells? at h
  split at h
  · obtain ⟨h1, h2⟩ := mapM_get h
    refine ⟨by simpa using h1, fun j v hv => ?_⟩
    obtain ⟨x, h3, h4⟩ := h2 j v hv
    obtain ⟨h5, h6⟩ := List.getElem?_eq_some_iff.1 h3
    rw [List.getElem_range] at h6
    rw [h6]; exact h4
  · cases h
theorem pick_two {α β : Type} {n : Nat} {p : Nat → α → β → Prop} (h : ∀ i, i < n → ∃ s t, p i s t) : ∃ (l : List α) (m : List β), l.length = n ∧ m.length = n ∧ ∀ i s t, l[i]? = some s → m[i]? = some t → p i s t := by
  induction n with
  | zero => exact ⟨[], [], rfl, rfl, fun i s t h => by simp at h⟩
  | succ n ih =>
    obtain ⟨l, m, h1, h2, h3⟩ := ih fun i hi => h i (by omega)
    obtain ⟨s, t, hst⟩ := h n (by omega)
    refine ⟨l ++ [s], m ++ [t], by simp [h1], by simp [h2], fun i s' t' hs ht => ?_⟩
    rcases Nat.lt_or_ge i n with hi | hi
    · rw [List.getElem?_append_left (by omega)] at hs ht
      exact h3 i s' t' hs ht
    · rw [List.getElem?_append_right (by omega)] at hs ht
      have e : i = n := by
        have := (List.getElem?_eq_some_iff.1 hs).1
        simp at this
        omega
      subst e
      rw [h1, Nat.sub_self] at hs
      rw [h2, Nat.sub_self] at ht
      simp at hs ht
      subst hs ht
      exact hst
section
variable {H : Type} {enc : TypeId × Value → H} {P : Program} {w : World} {base : Nat} {spare : Nat → Bool} {held : Bool}
def R1 (enc : TypeId × Value → H) (P : Program) (w : World) (base : Nat) (spare : Nat → Bool) (held : Bool) (ty : Ty) : Prop := ∀ (n : Nat) (t : TypeId), rep P n t ty = true → ∀ (fuel : Nat) (cs : List Value) (x : DataW H × List MemPlace), cs.length = ty.n → DataW.trod enc P w base spare held fuel t cs = some x → ∃ y : ty.D, ty.rd (fun _ => True) w cs y ∧ ty.ok y
def R2 (enc : TypeId × Value → H) (P : Program) (w : World) (base : Nat) (spare : Nat → Bool) (held : Bool) (ty : Ty) : Prop := ∀ (n : Nat) (fs : List Field) (off : Nat) (cs : List Value), repFs (rep P n) P.cellsOf fs ty off = true → cs.length = ty.n → (∀ f ∈ fs, off ≤ f.offset → ∃ fuel x, DataW.trod enc P w base spare held fuel f.type ((cs.drop (f.offset - off)).take (P.cellsOf f.type)) = some x) → ∃ y : ty.D, ty.rd (fun _ => True) w cs y ∧ ty.ok y
def R3 (enc : TypeId × Value → H) (P : Program) (w : World) (base : Nat) (spare : Nat → Bool) (held : Bool) (ty : Ty) : Prop := ∀ (n k : Nat) (e : TypeId) (cs : List Value), repA (rep P n e) (P.cellsOf e) k ty = true → cs.length = ty.n → (∀ i, i < k → ∃ fuel x, DataW.trod enc P w base spare held fuel e ((cs.drop (i * P.cellsOf e)).take (P.cellsOf e)) = some x) → ∃ y : ty.D, ty.rd (fun _ => True) w cs y ∧ ty.ok y
theorem fs_off {rp : TypeId → Ty → Bool} {cells : TypeId → Nat} : ∀ {fs : List Field} {ty : Ty} {off : Nat}, repFs rp cells fs ty off = true → ∀ f ∈ fs, off ≤ f.offset
  | [], _, _, h, f, hf => by simp at hf
  | [g], ty, off, h, f, hf => by
    simp only [repFs, Bool.and_eq_true] at h
    simp at hf; subst hf
    exact Nat.le_of_eq (Nat.eq_of_beq_eq_true h.1.2).symm
  | g :: g' :: fs, .pair a b, off, h, f, hf => by
    simp only [repFs, Bool.and_eq_true] at h
    rcases List.mem_cons.1 hf with rfl | hf
    · exact Nat.le_of_eq (Nat.eq_of_beq_eq_true h.1.1.2).symm
    · have := fs_off h.2 f hf; omega
  | _ :: _ :: _, .int _, _, h, _, _ => by simp [repFs] at h
  | _ :: _ :: _, .bool, _, h, _, _ => by simp [repFs] at h
  | _ :: _ :: _, .str, _, h, _, _ => by simp [repFs] at h
  | _ :: _ :: _, .sl _, _, h, _, _ => by simp [repFs] at h
  | _ :: _ :: _, .st _, _, h, _, _ => by simp [repFs] at h
theorem one2 {ty : Ty} (h1 : R1 enc P w base spare held ty) (hp : ∀ (n : Nat) (f g : Field) (fs : List Field) (off : Nat) (cs : List Value), repFs (rep P n) P.cellsOf (f :: g :: fs) ty off = true → cs.length = ty.n → (∀ q ∈ f :: g :: fs, off ≤ q.offset → ∃ fuel x, DataW.trod enc P w base spare held fuel q.type ((cs.drop (q.offset - off)).take (P.cellsOf q.type)) = some x) → ∃ y : ty.D, ty.rd (fun _ => True) w cs y ∧ ty.ok y) : R2 enc P w base spare held ty := by
  intro n fs off cs hr hl hf
  match fs, hr, hf with
  | [], hr, _ => simp [repFs] at hr
  | [f], hr, hf =>
    simp only [repFs, Bool.and_eq_true] at hr
    have ho := Nat.eq_of_beq_eq_true hr.1.2
    have hc := Nat.eq_of_beq_eq_true hr.2
    obtain ⟨fuel, x, hx⟩ := hf f (by simp) (by omega)
    rw [ho, Nat.sub_self, hc, take_self _ _ hl] at hx
    exact h1 n f.type hr.1.1 fuel cs x hl hx
  | f :: g :: fs, hr, hf => exact hp n f g fs off cs hr hl hf
theorem one3 {ty : Ty} (h1 : R1 enc P w base spare held ty) (hp : ∀ (n k : Nat) (e : TypeId) (cs : List Value), repA (rep P n e) (P.cellsOf e) (k + 2) ty = true → cs.length = ty.n → (∀ i, i < k + 2 → ∃ fuel x, DataW.trod enc P w base spare held fuel e ((cs.drop (i * P.cellsOf e)).take (P.cellsOf e)) = some x) → ∃ y : ty.D, ty.rd (fun _ => True) w cs y ∧ ty.ok y) : R3 enc P w base spare held ty := by
  intro n k e cs hr hl hf
  match k, hr, hf with
  | 0, hr, _ => simp [repA] at hr
  | 1, hr, hf =>
    simp only [repA, Bool.and_eq_true] at hr
    have hc := Nat.eq_of_beq_eq_true hr.2
    obtain ⟨fuel, x, hx⟩ := hf 0 (by omega)
    rw [Nat.zero_mul, ← hc, take_self _ _ hl] at hx
    exact h1 n e hr.1 fuel cs x hl hx
  | k + 2, hr, hf => exact hp n k e cs hr hl hf
theorem rep_all : ∀ (ty : Ty), R1 enc P w base spare held ty ∧ R2 enc P w base spare held ty ∧ R3 enc P w base spare held ty := by
  intro ty
  have leaf : ∀ {ty : Ty}, (∀ a b, ty ≠ .pair a b) → R1 enc P w base spare held ty → R1 enc P w base spare held ty ∧ R2 enc P w base spare held ty ∧ R3 enc P w base spare held ty := by
    intro ty hne h1
    refine ⟨h1, one2 h1 fun n f g fs off cs hr => ?_, one3 h1 fun n k e cs hr => ?_⟩
    · cases ty <;> first | exact absurd rfl (hne _ _) | simp [repFs] at hr
    · cases ty <;> first | exact absurd rfl (hne _ _) | simp [repA] at hr
  induction ty with
  | int k =>
    refine leaf (fun a b e => by cases e) fun n t hr fuel cs x hl hx => ?_
    cases n with
    | zero => simp [rep] at hr
    | succ n =>
      unfold rep at hr
      split at hr <;> try (cases hr; done)
      all_goals rename_i hu he <;> cases he
      have := of_decide_eq_true hr
      subst this
      obtain ⟨m, rfl, _, hw⟩ := DataW.trod_int hu hx
      exact ⟨m, rfl, hw⟩
  | bool =>
    refine leaf (fun a b e => by cases e) fun n t hr fuel cs x hl hx => ?_
    cases n with
    | zero => simp [rep] at hr
    | succ n =>
      unfold rep at hr
      split at hr <;> try (cases hr; done)
      all_goals rename_i hu he <;> cases he
      obtain ⟨m, rfl, _⟩ := DataW.trod_bool hu hx
      exact ⟨m, rfl, trivial⟩
  | str =>
    refine leaf (fun a b e => by cases e) fun n t hr fuel cs x hl hx => ?_
    cases n with
    | zero => simp [rep] at hr
    | succ n =>
      unfold rep at hr
      split at hr <;> try (cases hr; done)
      all_goals rename_i hu he <;> cases he
      cases fuel with
      | zero => simp [DataW.trod] at hx
      | succ fuel =>
        unfold DataW.trod at hx
        rw [hu] at hx
        split at hx <;> simp_all
        exact ⟨_, rfl, trivial⟩
  | sl e ih =>
    refine leaf (fun a b e => by cases e) fun n t hr fuel cs x hl hx => ?_
    cases n with
    | zero => simp [rep] at hr
    | succ n =>
      unfold rep at hr
      split at hr <;> try (cases hr; done)
      all_goals rename_i hu he <;> cases he
      simp only [Bool.and_eq_true] at hr
      obtain ⟨⟨r1, r2⟩, r3⟩ := hr
      have hc := Nat.eq_of_beq_eq_true r2
      have hn0 := Nat.le_of_ble_eq_true r3
      rcases Deep.open_slice hu hx with ⟨rfl, _⟩ | ⟨a, len, cap, m, nn, D, Pl, rfl, hb, hle, hcap, hm, _, hel⟩
      · exact ⟨[], nil_rd, by simp, fun x hx => by simp at hx⟩
      · have hlm : len ≤ m := by rw [hm]; split <;> omega
        have key : ∀ i, i < len → ∃ (l : List Value) (y : e.D), (e.rd (fun _ => True) w l y ∧ e.ok y) ∧ ∀ j v, l[j]? = some v → w.cell? ((a.add (i * e.n)).add j) = some v := by
          intro i hi
          obtain ⟨cs', h1, h2⟩ := hel i (by omega)
          rw [hc] at h1
          obtain ⟨h3, h4⟩ := cells_get h1
          obtain ⟨y, h5⟩ := ih.1 n _ r1 nn cs' _ h3 h2
          exact ⟨cs', y, h5, h4⟩
        obtain ⟨css, ys, l1, l2, hk⟩ := pick_two key
        have hall : all2 (fun l y => e.rd (fun _ => True) w l y) css ys := all2_of (by omega) fun i l y h1 h2 => (hk i l y h1 h2).1.1
        refine ⟨ys, ⟨some a, len, cap, css, rfl, l2, hle, hcap, hall, fun h0 => ?_⟩, by unfold maxLen at hcap; omega, fun y hy => ?_⟩
        · obtain ⟨l0, hl0⟩ : ∃ l, css[0]? = some l := ⟨_, List.getElem?_eq_getElem (by omega)⟩
          obtain ⟨y0, hy0, hrd0⟩ := all2_getL hall 0 l0 hl0
          have hlen0 := Ty.rd_len hrd0
          obtain ⟨v0, hv0⟩ : ∃ v, l0[0]? = some v := ⟨_, List.getElem?_eq_getElem (by omega)⟩
          have hc0 := (hk 0 l0 y0 hl0 hy0).2 0 v0 hv0
          have e0 : (a.add (0 * e.n)).add 0 = a := by simp [Addr.add]
          rw [e0] at hc0
          obtain ⟨h1, h2⟩ := cell_lt hc0
          obtain ⟨b, off, sp⟩ := a
          dsimp only at h1 h2
          subst h2
          refine ⟨b, off, rfl, trivial, h1, fun i v hv => ?_⟩
          have hls := rds_len hall
          have hi : i < css.flatten.length := (List.getElem?_eq_some_iff.1 hv).1
          rw [flatten_len hls, l1] at hi
          have hq : i / e.n < len := Nat.div_lt_of_lt_mul (by rw [Nat.mul_comm]; exact hi)
          obtain ⟨l, hl⟩ : ∃ l, css[i / e.n]? = some l := ⟨_, List.getElem?_eq_getElem (by omega)⟩
          obtain ⟨y, hy, hrd⟩ := all2_getL hall _ l hl
          have hmod : i % e.n < e.n := Nat.mod_lt _ hn0
          obtain ⟨u, hu'⟩ : ∃ u, l[i % e.n]? = some u := ⟨_, List.getElem?_eq_getElem (by rw [Ty.rd_len hrd]; exact hmod)⟩
          have hfl := flatten_get hls hl hu'
          have hdm : i / e.n * e.n + i % e.n = i := by rw [Nat.mul_comm]; exact Nat.div_add_mod i e.n
          rw [hdm, hv] at hfl
          injection hfl with hfl
          subst hfl
          have := (hk _ l y hl hy).2 _ _ hu'
          rw [add_plain, add_plain] at this
          rwa [Nat.add_assoc, hdm] at this
        · obtain ⟨i, hi, rfl⟩ := List.getElem_of_mem hy
          obtain ⟨l, hl, _⟩ := all2_get hall i _ (List.getElem?_eq_getElem hi)
          exact (hk i l _ hl (List.getElem?_eq_getElem hi)).1.2
  | st a ih =>
    refine leaf (fun a b e => by cases e) fun n t hr fuel cs x hl hx => ?_
    cases n with
    | zero => simp [rep] at hr
    | succ n =>
      unfold rep at hr
      split at hr <;> try (cases hr; done)
      all_goals rename_i hu he <;> cases he
      · simp only [Bool.and_eq_true] at hr
        obtain ⟨xs, k, rfl, _, _, hlen, hg⟩ := DataW.trod_struct hu hx
        refine ih.2.1 n _ 0 cs hr.1 hl fun f hf _ => ?_
        obtain ⟨i, hi, rfl⟩ := List.getElem_of_mem hf
        rename_i fs
        have h1 := hg i _ (by rw [← Array.getElem?_toList]; exact List.getElem?_eq_getElem hi)
        obtain ⟨y, hy⟩ : ∃ y, xs[i]? = some y := ⟨_, List.getElem?_eq_getElem (by rw [hlen]; simpa using hi)⟩
        rw [hy] at h1
        exact ⟨k, y, by rw [Nat.sub_zero]; exact h1⟩
      · simp only [Bool.and_eq_true] at hr
        obtain ⟨xs, k, rfl, _, _, hlen, hg⟩ := DataW.trod_array hu hx
        refine ih.2.2 n _ _ cs hr.1 hl fun i hi => ?_
        have h1 := hg i hi
        obtain ⟨y, hy⟩ : ∃ y, xs[i]? = some y := ⟨_, List.getElem?_eq_getElem (by rw [hlen]; exact hi)⟩
        rw [hy] at h1
        exact ⟨k, y, h1⟩
  | pair a b iha ihb =>
    have h1 : R1 enc P w base spare held (.pair a b) := by
      intro n t hr
      cases n with
      | zero => simp [rep] at hr
      | succ n =>
        unfold rep at hr
        split at hr <;> first | (cases hr; done) | (rename_i he; cases he)
    have cut : ∀ {cs : List Value} {k m : Nat}, cs.length = a.n + b.n → ((cs.drop a.n).drop k).take m = (cs.drop (a.n + k)).take m := fun _ => by rw [List.drop_drop]
    refine ⟨h1, one2 h1 fun n f g fs off cs hr hl hf => ?_, one3 h1 fun n k e cs hr hl hf => ?_⟩
    · simp only [repFs, Bool.and_eq_true] at hr
      obtain ⟨⟨⟨r1, r2⟩, r3⟩, r4⟩ := hr
      have ho := Nat.eq_of_beq_eq_true r2
      have hc := Nat.eq_of_beq_eq_true r3
      simp only [Ty.n] at hl
      obtain ⟨fuel, x, hx⟩ := hf f (by simp) (by omega)
      rw [ho, Nat.sub_self, hc, List.drop_zero] at hx
      obtain ⟨y1, k1, k2⟩ := iha.1 n f.type r1 fuel (cs.take a.n) x (by simp; omega) hx
      obtain ⟨y2, k3, k4⟩ := ihb.2.1 n (g :: fs) (off + a.n) (cs.drop a.n) r4 (by simp; omega) fun q hq hle => by
        obtain ⟨fuel, x, hx⟩ := hf q (by simp only [List.mem_cons] at hq ⊢; exact .inr hq) (by omega)
        refine ⟨fuel, x, ?_⟩
        rw [List.drop_drop, show a.n + (q.offset - (off + a.n)) = q.offset - off by omega]
        exact hx
      exact ⟨(y1, y2), ⟨_, _, (List.take_append_drop a.n cs).symm, k1, k3⟩, k2, k4⟩
    · simp only [repA, Bool.and_eq_true] at hr
      obtain ⟨⟨r1, r2⟩, r3⟩ := hr
      have hc := Nat.eq_of_beq_eq_true r2
      simp only [Ty.n] at hl
      obtain ⟨fuel, x, hx⟩ := hf 0 (by omega)
      rw [Nat.zero_mul, List.drop_zero, ← hc] at hx
      obtain ⟨y1, k1, k2⟩ := iha.1 n e r1 fuel (cs.take a.n) x (by simp; omega) hx
      obtain ⟨y2, k3, k4⟩ := ihb.2.2 n (k + 1) e (cs.drop a.n) r3 (by simp; omega) fun i hi => by
        obtain ⟨fuel, x, hx⟩ := hf (i + 1) (by omega)
        refine ⟨fuel, x, ?_⟩
        rw [List.drop_drop, hc, show P.cellsOf e + i * P.cellsOf e = (i + 1) * P.cellsOf e by rw [Nat.succ_mul]; omega]
        exact hx
      exact ⟨(y1, y2), ⟨_, _, (List.take_append_drop a.n cs).symm, k1, k3⟩, k2, k4⟩
end
end Go.Proofs.Ytfkidjkpgliffaa

/- Arguments of a law as data; the last step of a law's row. -/
import Derived.Test.YtcaiedfkohigjaaGreatZ6
import Derived.ProofKit
import Derived.OpenShut
import Derived.ChangeSame
import Derived.Deep.Slices
namespace Go.Proofs.YtcaiedfkohigjaaGreat
open Go.ChangeShapes Go.WideShapes Go.ChangeAt Go.WideMaps Go.WideElems Go.RowKit
theorem ownKnob_ : ownKnob Tryz.prog.godebug = none := by kernel_rfl
theorem i64_of_wf {n : Int} (h : (Lit.int .i64 n).wf = true) : -9223372036854775808 ≤ n ∧ n ≤ 9223372036854775807 := bounds_i64 h

/-- Numbers are in their ranges. -/
def Ty.ok : (t : Ty) → t.D → Prop
  | .int k, x => (Lit.int k x).wf = true
  | .bool, _ => True
  | .str, _ => True
  | .sl e, xs => xs.length ≤ 9223372036854775807 ∧ ∀ x ∈ xs, e.ok x
  | .pair a b, x => a.ok x.1 ∧ b.ok x.2
  | .st a, x => a.ok x
/-- A type of the program has this form. -/
def repFs (rp : TypeId → Ty → Bool) (cells : TypeId → Nat) : List Field → Ty → Nat → Bool
  | [], _, _ => false
  | [f], a, off => rp f.type a && Nat.beq f.offset off && Nat.beq (cells f.type) a.n
  | f :: g :: fs, .pair a b, off => rp f.type a && Nat.beq f.offset off && Nat.beq (cells f.type) a.n && repFs rp cells (g :: fs) b (off + a.n)
  | _, _, _ => false
def repA (rp : Ty → Bool) (n : Nat) : Nat → Ty → Bool
  | 0, _ => false
  | 1, a => rp a && Nat.beq a.n n
  | k + 2, .pair a b => rp a && Nat.beq a.n n && repA rp n (k + 1) b
  | _, _ => false
def rep (P : Program) : Nat → TypeId → Ty → Bool
  | 0, _, _ => false
  | n + 1, t, ty => match P.underlying t, ty with
    | some (.int k), .int k' => decide (k = k')
    | some .bool, .bool => true
    | some .string, .str => true
    | some (.slice e), .sl ety => rep P n e ety && Nat.beq (P.cellsOf e) ety.n && Nat.ble 1 ety.n
    | some (.struct fs), .st a => repFs (rep P n) P.cellsOf fs.toList a 0 && Nat.beq (P.cellsOf t) a.n
    | some (.array k e), .st a => repA (rep P n e) (P.cellsOf e) k a && Nat.beq (P.cellsOf t) a.n
    | _, _ => false

theorem cell_lt {w : World} {a : Addr} {v : Value} (h : w.cell? a = some v) : a.block < w.heap.size ∧ a.spot = none := by
  unfold World.cell? at h
  split at h
  · rename_i hb
    refine ⟨(Array.getElem?_eq_some_iff.1 hb).1, ?_⟩
    split at h
    · cases h
    · rename_i hn; simpa using hn
  · cases h
theorem mapM_get {α β : Type} {f : α → Option β} : ∀ {l : List α} {r : List β}, l.mapM f = some r → r.length = l.length ∧ ∀ (j : Nat) (y : β), r[j]? = some y → ∃ x, l[j]? = some x ∧ f x = some y
  | [], r, h => by simp at h; subst h; simp
  | x :: l, r, h => by
    rw [List.mapM_cons] at h
    cases hx : f x with
    | none => rw [hx] at h; simp at h
    | some y =>
      rw [hx] at h
      cases hl : l.mapM f with
      | none => rw [hl] at h; simp at h
      | some r' =>
        rw [hl] at h
        obtain rfl : y :: r' = r := by simpa using h
        obtain ⟨h1, h2⟩ := mapM_get hl
        refine ⟨by simp [h1], fun j z hz => ?_⟩
        cases j with
        | zero => exact ⟨x, rfl, by simpa [hx] using hz⟩
        | succ j => obtain ⟨u, h3, h4⟩ := h2 j z (by simpa using hz); exact ⟨u, by simpa using h3, h4⟩
theorem cells_get {w : World} {base n : Nat} {a : Addr} {l : List Value} (h : w.cells? base a n = some l) : l.length = n ∧ ∀ (j : Nat) (v : Value), l[j]? = some v → w.cell? (a.add j) = some v := by
  unfold World.cells? at h
  split at h
  · obtain ⟨h1, h2⟩ := mapM_get h
    refine ⟨by simpa using h1, fun j v hv => ?_⟩
    obtain ⟨x, h3, h4⟩ := h2 j v hv
    obtain ⟨h5, h6⟩ := List.getElem?_eq_some_iff.1 h3
    rw [List.getElem_range] at h6
    rw [h6]; exact h4
  · cases h
theorem pick_two {α β : Type} {n : Nat} {p : Nat → α → β → Prop} (h : ∀ i, i < n → ∃ s t, p i s t) : ∃ (l : List α) (m : List β), l.length = n ∧ m.length = n ∧ ∀ i s t, l[i]? = some s → m[i]? = some t → p i s t := by
  induction n with
  | zero => exact ⟨[], [], rfl, rfl, fun i s t h => by simp at h⟩
  | succ n ih =>
    obtain ⟨l, m, h1, h2, h3⟩ := ih fun i hi => h i (by omega)
    obtain ⟨s, t, hst⟩ := h n (by omega)
    refine ⟨l ++ [s], m ++ [t], by simp [h1], by simp [h2], fun i s' t' hs ht => ?_⟩
    rcases Nat.lt_or_ge i n with hi | hi
    · rw [List.getElem?_append_left (by omega)] at hs ht
      exact h3 i s' t' hs ht
    · rw [List.getElem?_append_right (by omega)] at hs ht
      have e : i = n := by
        have := (List.getElem?_eq_some_iff.1 hs).1
        simp at this
        omega
      subst e
      rw [h1, Nat.sub_self] at hs
      rw [h2, Nat.sub_self] at ht
      simp at hs ht
      subst hs ht
      exact hst
section
variable {H : Type} {enc : TypeId × Value → H} {P : Program} {w : World} {base : Nat} {spare : Nat → Bool} {held : Bool}
def R1 (enc : TypeId × Value → H) (P : Program) (w : World) (base : Nat) (spare : Nat → Bool) (held : Bool) (ty : Ty) : Prop := ∀ (n : Nat) (t : TypeId), rep P n t ty = true → ∀ (fuel : Nat) (cs : List Value) (x : DataW H × List MemPlace), cs.length = ty.n → DataW.trod enc P w base spare held fuel t cs = some x → ∃ y : ty.D, ty.rd (fun _ => True) w cs y ∧ ty.ok y
def R2 (enc : TypeId × Value → H) (P : Program) (w : World) (base : Nat) (spare : Nat → Bool) (held : Bool) (ty : Ty) : Prop := ∀ (n : Nat) (fs : List Field) (off : Nat) (cs : List Value), repFs (rep P n) P.cellsOf fs ty off = true → cs.length = ty.n → (∀ f ∈ fs, off ≤ f.offset → ∃ fuel x, DataW.trod enc P w base spare held fuel f.type ((cs.drop (f.offset - off)).take (P.cellsOf f.type)) = some x) → ∃ y : ty.D, ty.rd (fun _ => True) w cs y ∧ ty.ok y
def R3 (enc : TypeId × Value → H) (P : Program) (w : World) (base : Nat) (spare : Nat → Bool) (held : Bool) (ty : Ty) : Prop := ∀ (n k : Nat) (e : TypeId) (cs : List Value), repA (rep P n e) (P.cellsOf e) k ty = true → cs.length = ty.n → (∀ i, i < k → ∃ fuel x, DataW.trod enc P w base spare held fuel e ((cs.drop (i * P.cellsOf e)).take (P.cellsOf e)) = some x) → ∃ y : ty.D, ty.rd (fun _ => True) w cs y ∧ ty.ok y
theorem fs_off {rp : TypeId → Ty → Bool} {cells : TypeId → Nat} : ∀ {fs : List Field} {ty : Ty} {off : Nat}, repFs rp cells fs ty off = true → ∀ f ∈ fs, off ≤ f.offset
  | [], _, _, h, f, hf => by simp at hf
  | [g], ty, off, h, f, hf => by
    simp only [repFs, Bool.and_eq_true] at h
    simp at hf; subst hf
    exact Nat.le_of_eq (Nat.eq_of_beq_eq_true h.1.2).symm
  | g :: g' :: fs, .pair a b, off, h, f, hf => by
    simp only [repFs, Bool.and_eq_true] at h
    rcases List.mem_cons.1 hf with rfl | hf
    · exact Nat.le_of_eq (Nat.eq_of_beq_eq_true h.1.1.2).symm
    · have := fs_off h.2 f hf; omega
  | _ :: _ :: _, .int _, _, h, _, _ => by simp [repFs] at h
  | _ :: _ :: _, .bool, _, h, _, _ => by simp [repFs] at h
  | _ :: _ :: _, .str, _, h, _, _ => by simp [repFs] at h
  | _ :: _ :: _, .sl _, _, h, _, _ => by simp [repFs] at h
  | _ :: _ :: _, .st _, _, h, _, _ => by simp [repFs] at h
theorem one2 {ty : Ty} (h1 : R1 enc P w base spare held ty) (hp : ∀ (n : Nat) (f g : Field) (fs : List Field) (off : Nat) (cs : List Value), repFs (rep P n) P.cellsOf (f :: g :: fs) ty off = true → cs.length = ty.n → (∀ q ∈ f :: g :: fs, off ≤ q.offset → ∃ fuel x, DataW.trod enc P w base spare held fuel q.type ((cs.drop (q.offset - off)).take (P.cellsOf q.type)) = some x) → ∃ y : ty.D, ty.rd (fun _ => True) w cs y ∧ ty.ok y) : R2 enc P w base spare held ty := by
  intro n fs off cs hr hl hf
  match fs, hr, hf with
  | [], hr, _ => simp [repFs] at hr
  | [f], hr, hf =>
    simp only [repFs, Bool.and_eq_true] at hr
    have ho := Nat.eq_of_beq_eq_true hr.1.2
    have hc := Nat.eq_of_beq_eq_true hr.2
    obtain ⟨fuel, x, hx⟩ := hf f (by simp) (by omega)
    rw [ho, Nat.sub_self, hc, take_self _ _ hl] at hx
    exact h1 n f.type hr.1.1 fuel cs x hl hx
  | f :: g :: fs, hr, hf => exact hp n f g fs off cs hr hl hf
theorem one3 {ty : Ty} (h1 : R1 enc P w base spare held ty) (hp : ∀ (n k : Nat) (e : TypeId) (cs : List Value), repA (rep P n e) (P.cellsOf e) (k + 2) ty = true → cs.length = ty.n → (∀ i, i < k + 2 → ∃ fuel x, DataW.trod enc P w base spare held fuel e ((cs.drop (i * P.cellsOf e)).take (P.cellsOf e)) = some x) → ∃ y : ty.D, ty.rd (fun _ => True) w cs y ∧ ty.ok y) : R3 enc P w base spare held ty := by
  intro n k e cs hr hl hf
  match k, hr, hf with
  | 0, hr, _ => simp [repA] at hr
  | 1, hr, hf =>
    simp only [repA, Bool.and_eq_true] at hr
    have hc := Nat.eq_of_beq_eq_true hr.2
    obtain ⟨fuel, x, hx⟩ := hf 0 (by omega)
    rw [Nat.zero_mul, ← hc, take_self _ _ hl] at hx
    exact h1 n e hr.1 fuel cs x hl hx
  | k + 2, hr, hf => exact hp n k e cs hr hl hf
theorem rep_all : ∀ (ty : Ty), R1 enc P w base spare held ty ∧ R2 enc P w base spare held ty ∧ R3 enc P w base spare held ty := by
  intro ty
  have leaf : ∀ {ty : Ty}, (∀ a b, ty ≠ .pair a b) → R1 enc P w base spare held ty → R1 enc P w base spare held ty ∧ R2 enc P w base spare held ty ∧ R3 enc P w base spare held ty := by
    intro ty hne h1
    refine ⟨h1, one2 h1 fun n f g fs off cs hr => ?_, one3 h1 fun n k e cs hr => ?_⟩
    · cases ty <;> first | exact absurd rfl (hne _ _) | simp [repFs] at hr
    · cases ty <;> first | exact absurd rfl (hne _ _) | simp [repA] at hr
  induction ty with
  | int k =>
    refine leaf (fun a b e => by cases e) fun n t hr fuel cs x hl hx => ?_
    cases n with
    | zero => simp [rep] at hr
    | succ n =>
      unfold rep at hr
      split at hr <;> try (cases hr; done)
      all_goals rename_i hu he <;> cases he
      have := of_decide_eq_true hr
      subst this
      obtain ⟨m, rfl, _, hw⟩ := DataW.trod_int hu hx
      exact ⟨m, rfl, hw⟩
  | bool =>
    refine leaf (fun a b e => by cases e) fun n t hr fuel cs x hl hx => ?_
    cases n with
    | zero => simp [rep] at hr
    | succ n =>
      unfold rep at hr
      split at hr <;> try (cases hr; done)
      all_goals rename_i hu he <;> cases he
      obtain ⟨m, rfl, _⟩ := DataW.trod_bool hu hx
      exact ⟨m, rfl, trivial⟩
  | str =>
    refine leaf (fun a b e => by cases e) fun n t hr fuel cs x hl hx => ?_
    cases n with
    | zero => simp [rep] at hr
    | succ n =>
      unfold rep at hr
      split at hr <;> try (cases hr; done)
      all_goals rename_i hu he <;> cases he
      cases fuel with
      | zero => simp [DataW.trod] at hx
      | succ fuel =>
        unfold DataW.trod at hx
        rw [hu] at hx
        split at hx <;> simp_all
        exact ⟨_, rfl, trivial⟩
  | sl e ih =>
    refine leaf (fun a b e => by cases e) fun n t hr fuel cs x hl hx => ?_
    cases n with
    | zero => simp [rep] at hr
    | succ n =>
      unfold rep at hr
      split at hr <;> try (cases hr; done)
      all_goals rename_i hu he <;> cases he
      simp only [Bool.and_eq_true] at hr
      obtain ⟨⟨r1, r2⟩, r3⟩ := hr
      have hc := Nat.eq_of_beq_eq_true r2
      have hn0 := Nat.le_of_ble_eq_true r3
      rcases Deep.open_slice hu hx with ⟨rfl, _⟩ | ⟨a, len, cap, m, nn, D, Pl, rfl, hb, hle, hcap, hm, _, hel⟩
      · exact ⟨[], nil_rd, by simp, fun x hx => by simp at hx⟩
      · have hlm : len ≤ m := by rw [hm]; split <;> omega
        have key : ∀ i, i < len → ∃ (l : List Value) (y : e.D), (e.rd (fun _ => True) w l y ∧ e.ok y) ∧ ∀ j v, l[j]? = some v → w.cell? ((a.add (i * e.n)).add j) = some v := by
          intro i hi
          obtain ⟨cs', h1, h2⟩ := hel i (by omega)
          rw [hc] at h1
          obtain ⟨h3, h4⟩ := cells_get h1
          obtain ⟨y, h5⟩ := ih.1 n _ r1 nn cs' _ h3 h2
          exact ⟨cs', y, h5, h4⟩
        obtain ⟨css, ys, l1, l2, hk⟩ := pick_two key
        have hall : all2 (fun l y => e.rd (fun _ => True) w l y) css ys := all2_of (by omega) fun i l y h1 h2 => (hk i l y h1 h2).1.1
        refine ⟨ys, ⟨some a, len, cap, css, rfl, l2, hle, hcap, hall, fun h0 => ?_⟩, by unfold maxLen at hcap; omega, fun y hy => ?_⟩
        · obtain ⟨l0, hl0⟩ : ∃ l, css[0]? = some l := ⟨_, List.getElem?_eq_getElem (by omega)⟩
          obtain ⟨y0, hy0, hrd0⟩ := all2_getL hall 0 l0 hl0
          have hlen0 := Ty.rd_len hrd0
          obtain ⟨v0, hv0⟩ : ∃ v, l0[0]? = some v := ⟨_, List.getElem?_eq_getElem (by omega)⟩
          have hc0 := (hk 0 l0 y0 hl0 hy0).2 0 v0 hv0
          have e0 : (a.add (0 * e.n)).add 0 = a := by simp [Addr.add]
          rw [e0] at hc0
          obtain ⟨h1, h2⟩ := cell_lt hc0
          obtain ⟨b, off, sp⟩ := a
          dsimp only at h1 h2
          subst h2
          refine ⟨b, off, rfl, trivial, h1, fun i v hv => ?_⟩
          have hls := rds_len hall
          have hi : i < css.flatten.length := (List.getElem?_eq_some_iff.1 hv).1
          rw [flatten_len hls, l1] at hi
          have hq : i / e.n < len := Nat.div_lt_of_lt_mul (by rw [Nat.mul_comm]; exact hi)
          obtain ⟨l, hl⟩ : ∃ l, css[i / e.n]? = some l := ⟨_, List.getElem?_eq_getElem (by omega)⟩
          obtain ⟨y, hy, hrd⟩ := all2_getL hall _ l hl
          have hmod : i % e.n < e.n := Nat.mod_lt _ hn0
          obtain ⟨u, hu'⟩ : ∃ u, l[i % e.n]? = some u := ⟨_, List.getElem?_eq_getElem (by rw [Ty.rd_len hrd]; exact hmod)⟩
          have hfl := flatten_get hls hl hu'
          have hdm : i / e.n * e.n + i % e.n = i := by rw [Nat.mul_comm]; exact Nat.div_add_mod i e.n
          rw [hdm, hv] at hfl
          injection hfl with hfl
          subst hfl
          have := (hk _ l y hl hy).2 _ _ hu'
          rw [add_plain, add_plain] at this
          rwa [Nat.add_assoc, hdm] at this
        · obtain ⟨i, hi, rfl⟩ := List.getElem_of_mem hy
          obtain ⟨l, hl, _⟩ := all2_get hall i _ (List.getElem?_eq_getElem hi)
          exact (hk i l _ hl (List.getElem?_eq_getElem hi)).1.2
  | st a ih =>
    refine leaf (fun a b e => by cases e) fun n t hr fuel cs x hl hx => ?_
    cases n with
    | zero => simp [rep] at hr
    | succ n =>
      unfold rep at hr
      split at hr <;> try (cases hr; done)
      all_goals rename_i hu he <;> cases he
      · simp only [Bool.and_eq_true] at hr
        obtain ⟨xs, k, rfl, _, _, hlen, hg⟩ := DataW.trod_struct hu hx
        refine ih.2.1 n _ 0 cs hr.1 hl fun f hf _ => ?_
        obtain ⟨i, hi, rfl⟩ := List.getElem_of_mem hf
        rename_i fs
        have h1 := hg i _ (by rw [← Array.getElem?_toList]; exact List.getElem?_eq_getElem hi)
        obtain ⟨y, hy⟩ : ∃ y, xs[i]? = some y := ⟨_, List.getElem?_eq_getElem (by rw [hlen]; simpa using hi)⟩
        rw [hy] at h1
        exact ⟨k, y, by rw [Nat.sub_zero]; exact h1⟩
      · simp only [Bool.and_eq_true] at hr
        obtain ⟨xs, k, rfl, _, _, hlen, hg⟩ := DataW.trod_array hu hx
        refine ih.2.2 n _ _ cs hr.1 hl fun i hi => ?_
        have h1 := hg i hi
        obtain ⟨y, hy⟩ : ∃ y, xs[i]? = some y := ⟨_, List.getElem?_eq_getElem (by rw [hlen]; exact hi)⟩
        rw [hy] at h1
        exact ⟨k, y, h1⟩
  | pair a b iha ihb =>
    have h1 : R1 enc P w base spare held (.pair a b) := by
      intro n t hr
      cases n with
      | zero => simp [rep] at hr
      | succ n =>
        unfold rep at hr
        split at hr <;> first | (cases hr; done) | (rename_i he; cases he)
    have cut : ∀ {cs : List Value} {k m : Nat}, cs.length = a.n + b.n → ((cs.drop a.n).drop k).take m = (cs.drop (a.n + k)).take m := fun _ => by rw [List.drop_drop]
    refine ⟨h1, one2 h1 fun n f g fs off cs hr hl hf => ?_, one3 h1 fun n k e cs hr hl hf => ?_⟩
    · simp only [repFs, Bool.and_eq_true] at hr
      obtain ⟨⟨⟨r1, r2⟩, r3⟩, r4⟩ := hr
      have ho := Nat.eq_of_beq_eq_true r2
      have hc := Nat.eq_of_beq_eq_true r3
      simp only [Ty.n] at hl
      obtain ⟨fuel, x, hx⟩ := hf f (by simp) (by omega)
      rw [ho, Nat.sub_self, hc, List.drop_zero] at hx
      obtain ⟨y1, k1, k2⟩ := iha.1 n f.type r1 fuel (cs.take a.n) x (by simp; omega) hx
      obtain ⟨y2, k3, k4⟩ := ihb.2.1 n (g :: fs) (off + a.n) (cs.drop a.n) r4 (by simp; omega) fun q hq hle => by
        obtain ⟨fuel, x, hx⟩ := hf q (by simp only [List.mem_cons] at hq ⊢; exact .inr hq) (by omega)
        refine ⟨fuel, x, ?_⟩
        rw [List.drop_drop, show a.n + (q.offset - (off + a.n)) = q.offset - off by omega]
        exact hx
      exact ⟨(y1, y2), ⟨_, _, (List.take_append_drop a.n cs).symm, k1, k3⟩, k2, k4⟩
    · simp only [repA, Bool.and_eq_true] at hr
      obtain ⟨⟨r1, r2⟩, r3⟩ := hr
      have hc := Nat.eq_of_beq_eq_true r2
      simp only [Ty.n] at hl
      obtain ⟨fuel, x, hx⟩ := hf 0 (by omega)
      rw [Nat.zero_mul, List.drop_zero, ← hc] at hx
      obtain ⟨y1, k1, k2⟩ := iha.1 n e r1 fuel (cs.take a.n) x (by simp; omega) hx
      obtain ⟨y2, k3, k4⟩ := ihb.2.2 n (k + 1) e (cs.drop a.n) r3 (by simp; omega) fun i hi => by
        obtain ⟨fuel, x, hx⟩ := hf (i + 1) (by omega)
        refine ⟨fuel, x, ?_⟩
        rw [List.drop_drop, hc, show P.cellsOf e + i * P.cellsOf e = (i + 1) * P.cellsOf e by rw [Nat.succ_mul]; omega]
        exact hx
      exact ⟨(y1, y2), ⟨_, _, (List.take_append_drop a.n cs).symm, k1, k3⟩, k2, k4⟩
end
end Go.Proofs.YtcaiedfkohigjaaGreat
/- Small words for the plain proofs: numbers in their range, elements of lists, loops over an index. -/
namespace Go.Proofs.YtcaiedfkohigjaaGreat
open Go.RowKit
theorem wrap64 {x : Int} (h1 : -9223372036854775808 ≤ x) (h2 : x ≤ 9223372036854775807) : IntKind.i64.wrap x = x := IntWalk.i64_in x ⟨h1, h2⟩
theorem wrapS {k : Nat} (h : k + 1 ≤ 9223372036854775807) : IntKind.i64.wrap ((k : Int) + 1) = ((k + 1 : Nat) : Int) := by rw [wrap64 (by omega) (by omega)]; simp
theorem getI_nat {α : Type} (xs : List α) (k : Nat) : getI xs (k : Int) = xs[k]? := by unfold getI; rw [decide_eq_true (by omega)]; rfl
theorem getI_zero {α : Type} (xs : List α) : getI xs 0 = xs[0]? := getI_nat xs 0
theorem lt_dec {k n : Nat} (h : k < n) : decide ((k : Int) < (n : Int)) = true := decide_eq_true (by omega)
theorem ge_dec {k n : Nat} (h : n ≤ k) : decide ((k : Int) < (n : Int)) = false := decide_eq_false (by omega)
theorem drop_get {α : Type} {xs : List α} {k : Nat} (h : k < xs.length) : xs.drop k = xs[k] :: xs.drop (k + 1) := List.drop_eq_getElem_cons h
theorem drop_end {α : Type} {xs : List α} {k : Nat} (h : xs.length ≤ k) : xs.drop k = [] := List.drop_eq_nil_of_le h
/-- A row that is turned in place, up to j. -/
def updTo {α : Type} (f : Nat → α → α) (j : Nat) (a : List α) : List α := a.mapIdx fun i x => bif decide (i < j) then f i x else x
theorem updTo_len {α : Type} (f : Nat → α → α) (j : Nat) (a : List α) : (updTo f j a).length = a.length := by simp [updTo]
theorem updTo_zero {α : Type} (f : Nat → α → α) (a : List α) : updTo f 0 a = a := by
  apply List.ext_getElem?
  intro i
  simp [updTo]
theorem updTo_get {α : Type} (f : Nat → α → α) (a : List α) (j : Nat) : (updTo f j a)[j]? = a[j]? := by
  simp [updTo]
theorem updTo_set {α : Type} (f : Nat → α → α) (a : List α) (j : Nat) (h : j < a.length) : (updTo f j a).set j (f j a[j]) = updTo f (j + 1) a := by
  apply List.ext_getElem?
  intro i
  rw [List.getElem?_set]
  by_cases hij : j = i
  · subst hij
    simp [updTo, h]
  · rw [if_neg hij]
    simp only [updTo, List.getElem?_mapIdx]
    cases a[i]? with
    | none => rfl
    | some x =>
      simp only [Option.map_some, Option.some.injEq]
      by_cases hlt : i < j
      · rw [decide_eq_true hlt, decide_eq_true (show i < j + 1 by omega)]
      · rw [decide_eq_false hlt, decide_eq_false (show ¬ i < j + 1 by omega)]
theorem updTo_all {α : Type} (f : Nat → α → α) (a : List α) (j : Nat) (h : a.length ≤ j) : updTo f j a = a.mapIdx f := by
  apply List.ext_getElem?
  intro i
  simp only [updTo, List.getElem?_mapIdx]
  cases hi : a[i]? with
  | none => rfl
  | some x =>
    have := (List.getElem?_eq_some_iff.1 hi).1
    simp only [Option.map_some, Option.some.injEq]
    rw [decide_eq_true (show i < j by omega)]
    rfl
theorem toNat_nat (k : Nat) : ((k : Int)).toNat = k := Int.toNat_natCast k
theorem app_ok {m b : Nat} (hb : b ≤ 1000) (h : m ≤ 1000000) : decide ((m + 1) * b ≤ 140737488355328 ∧ m + 1 ≤ 140737488355328) = true := by
  have : (m + 1) * b ≤ 1000001 * 1000 := Nat.mul_le_mul (by omega) hb
  exact decide_eq_true ⟨by omega, by omega⟩
end Go.Proofs.YtcaiedfkohigjaaGreat
/- Great integers in limbs of nine digits: the plain laws. -/
namespace Go.Proofs.YtcaiedfkohigjaaGreat
open Go.RowKit
theorem dT {p : Prop} {i : Decidable p} (h : p) : @decide p i = true := decide_eq_true h
theorem dF {p : Prop} {i : Decidable p} (h : ¬ p) : @decide p i = false := decide_eq_false h
def val : List Int → Int
  | [] => 0
  | x :: xs => x + 1000000000 * val xs
def Lim (l : List Int) : Prop := ∀ x ∈ l, 0 ≤ x ∧ x < 1000000000
instance (l : List Int) : Decidable (Lim l) := by unfold Lim; infer_instance
def pw (n : Nat) : Int := 1000000000 ^ n
theorem pw_zero : pw 0 = 1 := rfl
theorem pw_succ (n : Nat) : pw (n + 1) = pw n * 1000000000 := by simp [pw, Int.pow_succ]
theorem pw_pos (n : Nat) : 0 < pw n := Int.pow_pos (by decide)
theorem pw_add (m n : Nat) : pw (m + n) = pw m * pw n := Int.pow_add _ _ _
theorem pw_mono {m n : Nat} (h : m ≤ n) : pw m ≤ pw n := by
  obtain ⟨k, rfl⟩ := Nat.exists_eq_add_of_le h
  rw [pw_add]
  have h1 := pw_pos m
  have h2 := pw_pos k
  have := Int.mul_le_mul_of_nonneg_left (show 1 ≤ pw k by omega) (Int.le_of_lt h1)
  omega
theorem Lim.nil : Lim [] := fun _ h => by cases h
theorem Lim.cons {x : Int} {l : List Int} (h1 : 0 ≤ x ∧ x < 1000000000) (h2 : Lim l) : Lim (x :: l) := fun y hy => by
  rcases List.mem_cons.1 hy with rfl | hy
  · exact h1
  · exact h2 y hy
theorem Lim.head {x : Int} {l : List Int} (h : Lim (x :: l)) : 0 ≤ x ∧ x < 1000000000 := h x (by simp)
theorem Lim.tail {x : Int} {l : List Int} (h : Lim (x :: l)) : Lim l := fun y hy => h y (by simp [hy])
theorem Lim.append {a b : List Int} (h1 : Lim a) (h2 : Lim b) : Lim (a ++ b) := fun y hy => by
  rcases List.mem_append.1 hy with hy | hy
  · exact h1 y hy
  · exact h2 y hy
theorem Lim.left {a b : List Int} (h : Lim (a ++ b)) : Lim a := fun y hy => h y (by simp [hy])
theorem Lim.right {a b : List Int} (h : Lim (a ++ b)) : Lim b := fun y hy => h y (by simp [hy])
theorem Lim.take {a : List Int} (h : Lim a) (n : Nat) : Lim (a.take n) := fun y hy => h y (List.mem_of_mem_take hy)
theorem Lim.drop {a : List Int} (h : Lim a) (n : Nat) : Lim (a.drop n) := fun y hy => h y (List.mem_of_mem_drop hy)
theorem Lim.set {a : List Int} (h : Lim a) (n : Nat) {y : Int} (hy : 0 ≤ y ∧ y < 1000000000) : Lim (a.set n y) := fun z hz => by
  rcases List.mem_or_eq_of_mem_set hz with hz | rfl
  · exact h z hz
  · exact hy
theorem Lim.get {a : List Int} (h : Lim a) {n : Nat} (hn : n < a.length) : 0 ≤ a[n] ∧ a[n] < 1000000000 := h _ (List.getElem_mem hn)
theorem Lim.rep (n : Nat) : Lim (List.replicate n 0) := fun y hy => by
  rw [List.eq_of_mem_replicate hy]; decide
theorem val_append (a b : List Int) : val (a ++ b) = val a + pw a.length * val b := by
  induction a with
  | nil => simp [val, pw]
  | cons x a ih =>
    simp only [List.cons_append, val, ih, List.length_cons, pw_succ]
    grind
theorem val_nonneg {l : List Int} (h : Lim l) : 0 ≤ val l := by
  induction l with
  | nil => exact Int.le_refl _
  | cons x l ih =>
    have := ih h.tail
    have := h.head
    simp only [val]
    omega
theorem val_lt {l : List Int} (h : Lim l) : val l < pw l.length := by
  induction l with
  | nil => exact Int.zero_lt_one
  | cons x l ih =>
    have := ih h.tail
    have := h.head
    simp only [val, List.length_cons, pw_succ]
    omega
theorem val_inj : ∀ {a b : List Int}, Lim a → Lim b → a.length = b.length → val a = val b → a = b
  | [], [], _, _, _, _ => rfl
  | [], _ :: _, _, _, h, _ => by simp at h
  | _ :: _, [], _, _, h, _ => by simp at h
  | x :: a, y :: b, h1, h2, hl, hv => by
    have k1 := h1.head
    have k2 := h2.head
    simp only [val] at hv
    have e : x = y := by omega
    subst e
    rw [val_inj h1.tail h2.tail (by simpa using hl) (by omega)]
theorem val_rep (n : Nat) : val (List.replicate n 0) = 0 := by
  induction n with
  | zero => rfl
  | succ n ih => simp [List.replicate_succ, val, ih]
theorem val_take_succ {l : List Int} {n : Nat} (h : n < l.length) : val (l.take (n + 1)) = val (l.take n) + pw n * l[n] := by
  rw [List.take_succ_eq_append_getElem h, val_append]
  simp [val, Nat.min_eq_left (Nat.le_of_lt h)]
theorem val_set : ∀ {l : List Int} {n : Nat} (h : n < l.length) (y : Int), val (l.set n y) = val l + pw n * (y - l[n])
  | [], _, h, _ => by simp at h
  | x :: l, 0, _, y => by simp only [List.set_cons_zero, val, pw_zero, List.getElem_cons_zero]; omega
  | x :: l, n + 1, h, y => by
    have := val_set (l := l) (n := n) (by simpa using h) y
    simp only [List.set_cons_succ, val, this, pw_succ, List.getElem_cons_succ]
    grind
theorem val_split (l : List Int) (n : Nat) : val l = val (l.take n) + pw (min n l.length) * val (l.drop n) := by
  have := val_append (l.take n) (l.drop n)
  rw [List.take_append_drop] at this
  rw [this]
  simp
/-- A number's last limbs. -/
def dig : Nat → Int → List Int
  | 0, _ => []
  | n + 1, v => v % 1000000000 :: dig n (v / 1000000000)
theorem dig_len : ∀ (n : Nat) (v : Int), (dig n v).length = n
  | 0, _ => rfl
  | n + 1, v => by simp [dig, dig_len n]
theorem dig_lim : ∀ (n : Nat) (v : Int), Lim (dig n v)
  | 0, _ => Lim.nil
  | n + 1, v => Lim.cons (by omega) (dig_lim n _)
theorem dig_val : ∀ (n : Nat) (v : Int), 0 ≤ v → v < pw n → val (dig n v) = v
  | 0, v, h1, h2 => by simp only [pw_zero] at h2; simp only [dig, val]; omega
  | n + 1, v, h1, h2 => by
    rw [pw_succ] at h2
    simp only [dig, val]
    rw [dig_val n (v / 1000000000) (by omega) (by omega)]
    omega
theorem eq_dig {l : List Int} {n : Nat} {v : Int} (h : Lim l) (hl : l.length = n) (hv : val l = v) : l = dig n v := by
  subst hl hv
  exact val_inj h (dig_lim _ _) (dig_len _ _).symm (dig_val _ _ (val_nonneg h) (val_lt h)).symm
/-- The limbs of a number, none 0 at the end. -/
def lbF : Nat → Nat → List Int
  | 0, _ => []
  | f + 1, n => bif n == 0 then [] else ((n % 1000000000 : Nat) : Int) :: lbF f (n / 1000000000)
def limbs (n : Nat) : List Int := lbF (n.log2 + 1) n
theorem lbF_zero (f : Nat) : lbF f 0 = [] := by cases f <;> rfl
theorem lbF_more : ∀ (f g n : Nat), n < 2 ^ f → n < 2 ^ g → lbF f n = lbF g n
  | 0, g, n, h, _ => by
    have : n = 0 := by simpa using h
    subst this
    rw [lbF_zero, lbF_zero]
  | f + 1, 0, n, _, h => by
    have : n = 0 := by simpa using h
    subst this
    rw [lbF_zero, lbF_zero]
  | f + 1, g + 1, n, h1, h2 => by
    rw [Nat.pow_succ] at h1 h2
    simp only [lbF]
    rw [lbF_more f g (n / 1000000000) (by omega) (by omega)]
theorem limbs_eq {f n : Nat} (h : n < 2 ^ f) : limbs n = lbF f n := lbF_more _ _ _ Nat.lt_log2_self h
theorem limbs_zero : limbs 0 = [] := rfl
theorem limbs_pos {n : Nat} (h : n ≠ 0) : limbs n = ((n % 1000000000 : Nat) : Int) :: limbs (n / 1000000000) := by
  have h1 : n / 1000000000 < 2 ^ n.log2 := by
    have := Nat.lt_log2_self (n := n)
    rw [Nat.pow_succ] at this
    omega
  rw [limbs_eq (f := n.log2) h1]
  unfold limbs
  simp only [lbF]
  rw [show (n == 0) = false by simpa using h]
  rfl
theorem limbs_ind {motive : Nat → Prop} (h0 : motive 0) (h1 : ∀ n, n ≠ 0 → motive (n / 1000000000) → motive n) (n : Nat) : motive n := by
  induction n using Nat.strongRecOn with
  | ind n ih =>
    by_cases hn : n = 0
    · subst hn; exact h0
    · exact h1 n hn (ih _ (by omega))
theorem limbs_lim (n : Nat) : Lim (limbs n) := by
  induction n using limbs_ind with
  | h0 => exact Lim.nil
  | h1 n hn ih => rw [limbs_pos hn]; exact Lim.cons (by omega) ih
theorem limbs_val (n : Nat) : val (limbs n) = (n : Int) := by
  induction n using limbs_ind with
  | h0 => rfl
  | h1 n hn ih => rw [limbs_pos hn]; simp only [val, ih]; omega
/-- No limb 0 at the end. -/
def can (l : List Int) : Prop := Lim l ∧ l.getLast? ≠ some 0
instance (l : List Int) : Decidable (can l) := by unfold can; infer_instance
theorem limbs_can (n : Nat) : can (limbs n) := by
  refine ⟨limbs_lim n, ?_⟩
  induction n using limbs_ind with
  | h0 => simp [limbs_zero]
  | h1 n hn ih =>
    rw [limbs_pos hn]
    by_cases hz : n / 1000000000 = 0
    · rw [hz, limbs_zero]
      simp
      omega
    · have hne : limbs (n / 1000000000) ≠ [] := by rw [limbs_pos hz]; simp
      rw [List.getLast?_cons_of_ne_nil hne]
      exact ih
theorem can_pos {x : Int} {l : List Int} (h : can (x :: l)) : can l := by
  refine ⟨h.1.tail, fun e => h.2 ?_⟩
  have hne : l ≠ [] := fun e' => by subst e'; simp at e
  rw [List.getLast?_cons_of_ne_nil hne]
  exact e
theorem can_val_pos : ∀ {l : List Int}, can l → l ≠ [] → 0 < val l
  | [], _, h => by cases h rfl
  | [x], h, _ => by
    have := h.1.head
    have h2 := h.2
    simp at h2
    simp only [val]
    omega
  | x :: y :: l, h, _ => by
    have := can_val_pos (can_pos h) (by simp)
    have := h.1.head
    simp only [val] at *
    omega
theorem can_eq : ∀ {l : List Int}, can l → l = limbs (val l).toNat
  | [], _ => rfl
  | x :: l, h => by
    have ih := can_eq (can_pos h)
    have hp := can_val_pos h (by simp)
    have hx := h.1.head
    have hn := val_nonneg h.1.tail
    rw [limbs_pos (by omega)]
    simp only [val] at hp ⊢
    rw [show (x + 1000000000 * val l).toNat % 1000000000 = x.toNat by omega, show (x + 1000000000 * val l).toNat / 1000000000 = (val l).toNat by omega, ← ih]
    rw [show ((x.toNat : Nat) : Int) = x by omega]
/-- Limbs with zeros behind. -/
theorem trim_eq {l : List Int} (h : Lim l) : ∃ k, k ≤ l.length ∧ l.take k = limbs (val l).toNat ∧ ∀ j (hj : j < l.length), k ≤ j → l[j] = 0 := by
  induction l with
  | nil => exact ⟨0, Nat.le_refl _, rfl, fun j hj => by simp at hj⟩
  | cons x l ih =>
    obtain ⟨k, h1, h2, h3⟩ := ih h.tail
    have hx := h.head
    have hn := val_nonneg h.tail
    by_cases hz : val (x :: l) = 0
    · refine ⟨0, by omega, by rw [hz]; rfl, fun j hj _ => ?_⟩
      simp only [val] at hz
      have hl0 : val l = 0 := by omega
      rw [hl0] at h2
      have hk : k = 0 := by
        have : (l.take k).length = 0 := by rw [h2]; rfl
        rw [List.length_take, Nat.min_eq_left h1] at this
        exact this
      match j with
      | 0 => simp; omega
      | j + 1 => simp; exact h3 j (by simpa using hj) (by omega)
    · have hp : 0 < val (x :: l) := by have := val_nonneg h; omega
      refine ⟨k + 1, by simpa using h1, ?_, fun j hj hk => ?_⟩
      · rw [List.take_succ_cons, h2, limbs_pos (n := (val (x :: l)).toNat) (by omega)]
        simp only [val]
        rw [show (x + 1000000000 * val l).toNat % 1000000000 = x.toNat by omega, show (x + 1000000000 * val l).toNat / 1000000000 = (val l).toNat by omega]
        rw [show ((x.toNat : Nat) : Int) = x by omega]
      · match j with
        | 0 => omega
        | j + 1 => simp; exact h3 j (by simpa using hj) (by omega)
theorem limbs_len_le {n k : Nat} (h : (n : Int) < pw k) : (limbs n).length ≤ k := by
  induction k generalizing n with
  | zero =>
    have : n = 0 := by simp only [pw_zero] at h; omega
    subst this
    simp [limbs_zero]
  | succ k ih =>
    rw [pw_succ] at h
    by_cases hn : n = 0
    · subst hn; simp [limbs_zero]
    · rw [limbs_pos hn]
      have := ih (n := n / 1000000000) (by omega)
      simp; omega
theorem limbs_len_ge {n k : Nat} (h : pw k ≤ (n : Int)) : k < (limbs n).length := by
  rcases Nat.lt_or_ge k (limbs n).length with h1 | h1
  · exact h1
  · have h2 := val_lt (limbs_lim n)
    rw [limbs_val] at h2
    have := pw_mono h1
    omega
theorem limbs_nil {n : Nat} : limbs n = [] ↔ n = 0 := by
  constructor
  · intro h
    have := limbs_val n
    rw [h] at this
    simp [val] at this
    omega
  · rintro rfl; rfl
/-- An integer as the program writes it. -/
def encI (z : Int) : Bool × List Int := (decide (z < 0), limbs z.natAbs)
def decI (x : Bool × List Int) : Int := bif x.1 then -val x.2 else val x.2
theorem dec_enc (z : Int) : decI (encI z) = z := by
  unfold decI encI
  rw [limbs_val]
  by_cases h : z < 0
  · rw [decide_eq_true h]; simp only [cond_true]; omega
  · rw [decide_eq_false h]; simp only [cond_false]; omega
theorem encI_inj {a b : Int} (h : encI a = encI b) : a = b := by rw [← dec_enc a, h, dec_enc]
/-- The sign of a difference. -/
def cmpI (a b : Int) : Int := bif decide (a < b) then -1 else bif decide (b < a) then 1 else 0
end Go.Proofs.YtcaiedfkohigjaaGreat
/- The seat's tables. -/
namespace Go.Proofs.YtcaiedfkohigjaaGreat
open Go.RowKit
def tys : TT := [(1, ⟨.int .i64, [], 0, 0, 0, false⟩),
  (2, ⟨.int .i64, [], 0, 0, 0, true⟩),
  (3, ⟨.int .i64, [], 0, 0, 0, true⟩),
  (4, ⟨.bool, [], 0, 0, 0, true⟩),
  (5, ⟨.int .u8, [], 0, 0, 0, true⟩),
  (6, ⟨.int .u8, [], 0, 0, 0, true⟩),
  (7, ⟨.st (.pair (.int .i64) (.pair (.int .i64) (.pair .bool (.int .u8)))), [(0, 1), (1, 1), (2, 1), (3, 1)], 0, 0, 0, true⟩),
  (8, ⟨.st (.pair (.int .i64) (.pair (.int .i64) (.pair .bool (.int .u8)))), [(0, 1), (1, 1), (2, 1), (3, 1)], 0, 0, 0, true⟩),
  (9, ⟨.str, [], 0, 0, 0, true⟩),
  (10, ⟨.str, [], 0, 0, 0, true⟩),
  (11, ⟨.str, [], 0, 0, 0, true⟩),
  (12, ⟨.int .u64, [], 0, 0, 0, true⟩),
  (13, ⟨.st (.pair .str (.int .u64)), [(0, 1), (1, 1)], 0, 0, 0, true⟩),
  (14, ⟨.st (.pair .str (.int .u64)), [(0, 1), (1, 1)], 0, 0, 0, true⟩),
  (15, ⟨.int .i64, [], 0, 0, 0, false⟩),
  (16, ⟨.int .i64, [], 0, 0, 0, false⟩),
  (17, ⟨.int .i64, [], 0, 0, 0, false⟩),
  (21, ⟨.int .i32, [], 0, 0, 0, true⟩),
  (22, ⟨.st (.pair (.int .i64) (.int .i64)), [(0, 1), (1, 1)], 0, 0, 0, true⟩),
  (23, ⟨.st (.pair (.int .i64) (.int .i64)), [(0, 1), (1, 1)], 0, 0, 0, true⟩),
  (24, ⟨.int .i64, [], 0, 0, 0, false⟩),
  (25, ⟨.int .i64, [], 0, 0, 0, false⟩),
  (26, ⟨.sl (.st (.pair (.int .i64) (.int .i64))), [], 23, 0, 16, true⟩),
  (27, ⟨.sl (.st (.pair (.int .i64) (.pair (.st (.pair (.int .i64) (.int .i64))) (.st (.pair (.int .i64) (.int .i64)))))), [], 74, 0, 40, true⟩),
  (28, ⟨.int .i64, [], 0, 0, 0, false⟩),
  (29, ⟨.int .i64, [], 0, 0, 0, false⟩),
  (30, ⟨.sl (.st (.pair (.int .i64) (.pair (.st (.pair (.int .i64) (.int .i64))) (.st (.pair (.int .i64) (.int .i64)))))), [], 62, 0, 40, true⟩),
  (31, ⟨.int .i64, [], 0, 0, 0, false⟩),
  (32, ⟨.int .i64, [], 0, 0, 0, false⟩),
  (33, ⟨.int .i16, [], 0, 0, 0, true⟩),
  (34, ⟨.st (.pair (.int .i16) (.pair (.int .i16) (.int .u8))), [(0, 1), (1, 1), (2, 1)], 0, 0, 0, true⟩),
  (35, ⟨.st (.pair (.int .i16) (.pair (.int .i16) (.int .u8))), [(0, 1), (1, 1), (2, 1)], 0, 0, 0, true⟩),
  (36, ⟨.int .i64, [], 0, 0, 0, false⟩),
  (37, ⟨.sl (.int .u32), [], 137, 0, 4, true⟩),
  (38, ⟨.st (.pair .bool (.sl (.int .u32))), [(0, 1), (1, 1)], 0, 0, 0, true⟩),
  (39, ⟨.st (.pair .bool (.sl (.int .u32))), [(0, 1), (1, 1)], 0, 0, 0, true⟩),
  (40, ⟨.st (.pair (.st (.pair .bool (.sl (.int .u32)))) (.st (.pair .bool (.sl (.int .u32))))), [(0, 2), (2, 2)], 0, 0, 0, true⟩),
  (41, ⟨.st (.pair (.st (.pair .bool (.sl (.int .u32)))) (.st (.pair .bool (.sl (.int .u32))))), [(0, 2), (2, 2)], 0, 0, 0, true⟩),
  (42, ⟨.st (.pair (.st (.pair (.st (.pair .bool (.sl (.int .u32)))) (.st (.pair .bool (.sl (.int .u32)))))) (.st (.pair (.st (.pair .bool (.sl (.int .u32)))) (.st (.pair .bool (.sl (.int .u32))))))), [(0, 4), (4, 4)], 0, 0, 0, true⟩),
  (43, ⟨.st (.pair (.st (.pair (.st (.pair .bool (.sl (.int .u32)))) (.st (.pair .bool (.sl (.int .u32)))))) (.st (.pair (.st (.pair .bool (.sl (.int .u32)))) (.st (.pair .bool (.sl (.int .u32))))))), [(0, 4), (4, 4)], 0, 0, 0, true⟩),
  (44, ⟨.int .i64, [], 0, 0, 0, false⟩),
  (45, ⟨.int .i64, [], 0, 0, 0, false⟩),
  (46, ⟨.int .i64, [], 0, 0, 0, false⟩),
  (47, ⟨.st (.pair (.int .i64) (.pair (.int .i64) (.int .i64))), [], 1, 3, 0, true⟩),
  (48, ⟨.sl (.st (.pair (.int .i64) (.pair (.st (.pair (.int .i64) (.pair (.int .i64) (.int .i64)))) (.pair (.st (.pair (.int .i64) (.int .i64))) (.int .i64))))), [], 82, 0, 56, true⟩),
  (49, ⟨.int .i64, [], 0, 0, 0, true⟩),
  (51, ⟨.int .i64, [], 0, 0, 0, false⟩),
  (52, ⟨.int .i64, [], 0, 0, 0, false⟩),
  (53, ⟨.int .i64, [], 0, 0, 0, false⟩),
  (54, ⟨.int .i64, [], 0, 0, 0, false⟩),
  (55, ⟨.int .i64, [], 0, 0, 0, false⟩),
  (57, ⟨.int .i64, [], 0, 0, 0, false⟩),
  (58, ⟨.int .i64, [], 0, 0, 0, false⟩),
  (59, ⟨.sl (.int .i64), [], 2, 0, 8, true⟩),
  (60, ⟨.int .i64, [], 0, 0, 0, false⟩),
  (61, ⟨.st (.pair (.int .i64) (.pair (.st (.pair (.int .i64) (.int .i64))) (.st (.pair (.int .i64) (.int .i64))))), [(0, 1), (1, 2), (3, 2)], 0, 0, 0, true⟩),
  (62, ⟨.st (.pair (.int .i64) (.pair (.st (.pair (.int .i64) (.int .i64))) (.st (.pair (.int .i64) (.int .i64))))), [(0, 1), (1, 2), (3, 2)], 0, 0, 0, true⟩),
  (63, ⟨.int .i64, [], 0, 0, 0, false⟩),
  (64, ⟨.int .i64, [], 0, 0, 0, false⟩),
  (65, ⟨.int .i64, [], 0, 0, 0, false⟩),
  (66, ⟨.int .i64, [], 0, 0, 0, false⟩),
  (67, ⟨.int .i64, [], 0, 0, 0, false⟩),
  (68, ⟨.int .i64, [], 0, 0, 0, false⟩),
  (69, ⟨.int .i64, [], 0, 0, 0, false⟩),
  (70, ⟨.int .i64, [], 0, 0, 0, false⟩),
  (72, ⟨.int .i64, [], 0, 0, 0, false⟩),
  (73, ⟨.int .i64, [], 0, 0, 0, false⟩),
  (74, ⟨.st (.pair (.int .i64) (.pair (.st (.pair (.int .i64) (.int .i64))) (.st (.pair (.int .i64) (.int .i64))))), [(0, 1), (1, 2), (3, 2)], 0, 0, 0, true⟩),
  (75, ⟨.int .i64, [], 0, 0, 0, false⟩),
  (76, ⟨.int .i64, [], 0, 0, 0, false⟩),
  (77, ⟨.int .i64, [], 0, 0, 0, false⟩),
  (78, ⟨.int .i64, [], 0, 0, 0, false⟩),
  (79, ⟨.st (.pair (.int .i64) (.pair (.int .i64) (.int .i64))), [(0, 1), (1, 1), (2, 1)], 0, 0, 0, true⟩),
  (80, ⟨.st (.pair (.int .i64) (.pair (.int .i64) (.int .i64))), [(0, 1), (1, 1), (2, 1)], 0, 0, 0, true⟩),
  (81, ⟨.st (.pair (.int .i64) (.pair (.st (.pair (.int .i64) (.pair (.int .i64) (.int .i64)))) (.pair (.st (.pair (.int .i64) (.int .i64))) (.int .i64)))), [(0, 1), (1, 3), (4, 2), (6, 1)], 0, 0, 0, true⟩),
  (82, ⟨.st (.pair (.int .i64) (.pair (.st (.pair (.int .i64) (.pair (.int .i64) (.int .i64)))) (.pair (.st (.pair (.int .i64) (.int .i64))) (.int .i64)))), [(0, 1), (1, 3), (4, 2), (6, 1)], 0, 0, 0, true⟩),
  (83, ⟨.int .i64, [], 0, 0, 0, false⟩),
  (84, ⟨.int .i64, [], 0, 0, 0, false⟩),
  (85, ⟨.int .i64, [], 0, 0, 0, false⟩),
  (86, ⟨.sl (.int .i64), [], 3, 0, 8, true⟩),
  (87, ⟨.int .i64, [], 0, 0, 0, false⟩),
  (88, ⟨.int .i64, [], 0, 0, 0, false⟩),
  (89, ⟨.int .i64, [], 0, 0, 0, false⟩),
  (90, ⟨.int .i64, [], 0, 0, 0, false⟩),
  (91, ⟨.int .i64, [], 0, 0, 0, false⟩),
  (92, ⟨.int .i64, [], 0, 0, 0, false⟩),
  (93, ⟨.int .i64, [], 0, 0, 0, false⟩),
  (94, ⟨.int .i64, [], 0, 0, 0, false⟩),
  (95, ⟨.int .i64, [], 0, 0, 0, false⟩),
  (96, ⟨.int .i64, [], 0, 0, 0, false⟩),
  (97, ⟨.sl (.st (.pair (.st (.pair .bool (.sl (.int .u32)))) (.st (.pair .bool (.sl (.int .u32)))))), [], 41, 0, 64, true⟩),
  (98, ⟨.int .i64, [], 0, 0, 0, false⟩),
  (99, ⟨.int .i64, [], 0, 0, 0, false⟩),
  (100, ⟨.int .i64, [], 0, 0, 0, false⟩),
  (101, ⟨.int .i64, [], 0, 0, 0, false⟩),
  (102, ⟨.int .i64, [], 0, 0, 0, false⟩),
  (103, ⟨.int .i64, [], 0, 0, 0, false⟩),
  (104, ⟨.int .i64, [], 0, 0, 0, false⟩),
  (105, ⟨.int .i64, [], 0, 0, 0, false⟩),
  (106, ⟨.int .i64, [], 0, 0, 0, false⟩),
  (107, ⟨.int .i64, [], 0, 0, 0, false⟩),
  (108, ⟨.int .u64, [], 0, 0, 0, true⟩),
  (109, ⟨.int .i64, [], 0, 0, 0, false⟩),
  (110, ⟨.int .i64, [], 0, 0, 0, false⟩),
  (111, ⟨.int .i64, [], 0, 0, 0, false⟩),
  (112, ⟨.int .i64, [], 0, 0, 0, false⟩),
  (113, ⟨.int .i64, [], 0, 0, 0, false⟩),
  (114, ⟨.int .i64, [], 0, 0, 0, false⟩),
  (115, ⟨.int .i64, [], 0, 0, 0, false⟩),
  (116, ⟨.int .i64, [], 0, 0, 0, false⟩),
  (117, ⟨.int .i64, [], 0, 0, 0, false⟩),
  (118, ⟨.int .i64, [], 0, 0, 0, false⟩),
  (119, ⟨.int .u64, [], 0, 0, 0, true⟩),
  (120, ⟨.int .i64, [], 0, 0, 0, false⟩),
  (121, ⟨.int .i64, [], 0, 0, 0, false⟩),
  (122, ⟨.int .i64, [], 0, 0, 0, false⟩),
  (124, ⟨.int .i64, [], 0, 0, 0, false⟩),
  (125, ⟨.int .i64, [], 0, 0, 0, false⟩),
  (126, ⟨.int .i64, [], 0, 0, 0, false⟩),
  (127, ⟨.int .i64, [], 0, 0, 0, false⟩),
  (128, ⟨.int .i64, [], 0, 0, 0, true⟩),
  (130, ⟨.int .i64, [], 0, 0, 0, false⟩),
  (131, ⟨.int .i64, [], 0, 0, 0, false⟩),
  (132, ⟨.int .i64, [], 0, 0, 0, false⟩),
  (133, ⟨.int .i64, [], 0, 0, 0, false⟩),
  (135, ⟨.int .i64, [], 0, 0, 0, false⟩),
  (136, ⟨.int .i64, [], 0, 0, 0, false⟩),
  (137, ⟨.int .u32, [], 0, 0, 0, true⟩),
  (138, ⟨.int .i64, [], 0, 0, 0, false⟩),
  (140, ⟨.int .i64, [], 0, 0, 0, false⟩),
  (142, ⟨.int .i64, [], 0, 0, 0, false⟩),
  (143, ⟨.int .i64, [], 0, 0, 0, false⟩),
  (145, ⟨.int .i64, [], 0, 0, 0, false⟩),
  (147, ⟨.int .i64, [], 0, 0, 0, false⟩),
  (149, ⟨.int .i64, [], 0, 0, 0, false⟩),
  (150, ⟨.int .i64, [], 0, 0, 0, false⟩),
  (151, ⟨.int .u64, [], 0, 0, 0, true⟩),
  (152, ⟨.int .i64, [], 0, 0, 0, false⟩),
  (153, ⟨.int .i64, [], 0, 0, 0, false⟩),
  (154, ⟨.int .i64, [], 0, 0, 0, false⟩),
  (155, ⟨.int .i64, [], 0, 0, 0, false⟩),
  (156, ⟨.int .i64, [], 0, 0, 0, false⟩),
  (157, ⟨.int .i64, [], 0, 0, 0, false⟩),
  (158, ⟨.int .i64, [], 0, 0, 0, false⟩),
  (159, ⟨.int .i64, [], 0, 0, 0, false⟩),
  (160, ⟨.int .i64, [], 0, 0, 0, false⟩),
  (161, ⟨.int .i64, [], 0, 0, 0, false⟩),
  (163, ⟨.int .i64, [], 0, 0, 0, false⟩),
  (164, ⟨.int .i64, [], 0, 0, 0, false⟩),
  (165, ⟨.int .i64, [], 0, 0, 0, false⟩),
  (166, ⟨.int .i64, [], 0, 0, 0, false⟩),
  (172, ⟨.int .i64, [], 0, 0, 0, false⟩),
  (173, ⟨.int .u8, [], 0, 0, 0, true⟩),
  (174, ⟨.int .u8, [], 0, 0, 0, true⟩),
  (175, ⟨.int .i64, [], 0, 0, 0, false⟩),
  (176, ⟨.int .i64, [], 0, 0, 0, false⟩),
  (177, ⟨.int .i32, [], 0, 0, 0, true⟩),
  (178, ⟨.int .i32, [], 0, 0, 0, true⟩)]
theorem tys_ok : chkAll Tryz.prog tys = true := by kernel_rfl
theorem mixed_ok : Tryz.prog.follows .mixedOrders = true := by kernel_rfl
noncomputable def ft : FT := [(2, Tryz.f2), (3, Tryz.f3), (4, Tryz.f4), (5, Tryz.f5), (6, Tryz.f6), (7, Tryz.f7), (8, Tryz.f8), (9, Tryz.f9), (10, Tryz.f10), (11, Tryz.f11), (12, Tryz.f12), (13, Tryz.f13), (14, Tryz.f14), (15, Tryz.f15), (16, Tryz.f16), (17, Tryz.f17), (18, Tryz.f18), (19, Tryz.f19), (20, Tryz.f20), (21, Tryz.f21), (22, Tryz.f22), (23, Tryz.f23), (24, Tryz.f24), (25, Tryz.f25), (26, Tryz.f26), (27, Tryz.f27), (28, Tryz.f28), (29, Tryz.f29), (30, Tryz.f30), (31, Tryz.f31), (32, Tryz.f32), (33, Tryz.f33), (34, Tryz.f34), (35, Tryz.f35), (36, Tryz.f36), (37, Tryz.f37), (38, Tryz.f38), (39, Tryz.f39), (40, Tryz.f40), (41, Tryz.f41), (42, Tryz.f42), (43, Tryz.f43), (44, Tryz.f44), (45, Tryz.f45), (46, Tryz.f46), (47, Tryz.f47), (48, Tryz.f48), (49, Tryz.f49), (50, Tryz.f50), (51, Tryz.f51), (52, Tryz.f52), (53, Tryz.f53), (54, Tryz.f54), (55, Tryz.f55), (56, Tryz.f56), (57, Tryz.f57), (58, Tryz.f58), (59, Tryz.f59), (60, Tryz.f60), (61, Tryz.f61), (62, Tryz.f62), (63, Tryz.f63), (64, Tryz.f64), (65, Tryz.f65), (66, Tryz.f66), (67, Tryz.f67), (68, Tryz.f68), (69, Tryz.f69), (70, Tryz.f70), (71, Tryz.f71), (72, Tryz.f72), (73, Tryz.f73), (74, Tryz.f74), (75, Tryz.f75), (76, Tryz.f76), (77, Tryz.f77), (78, Tryz.f78), (79, Tryz.f79), (80, Tryz.f80), (81, Tryz.f81), (82, Tryz.f82), (83, Tryz.f83), (84, Tryz.f84), (85, Tryz.f85), (86, Tryz.f86), (87, Tryz.f87), (88, Tryz.f88), (89, Tryz.f89), (90, Tryz.f90), (91, Tryz.f91), (92, Tryz.f92), (93, Tryz.f93), (94, Tryz.f94), (95, Tryz.f95), (96, Tryz.f96), (97, Tryz.f97), (98, Tryz.f98), (99, Tryz.f99), (100, Tryz.f100), (101, Tryz.f101), (102, Tryz.f102), (103, Tryz.f103), (104, Tryz.f104), (105, Tryz.f105), (106, Tryz.f106), (107, Tryz.f107), (108, Tryz.f108), (109, Tryz.f109), (110, Tryz.f110), (111, Tryz.f111), (112, Tryz.f112), (113, Tryz.f113), (114, Tryz.f114), (115, Tryz.f115), (116, Tryz.f116), (117, Tryz.f117), (118, Tryz.f118), (119, Tryz.f119), (120, Tryz.f120), (121, Tryz.f121), (122, Tryz.f122), (123, Tryz.f123), (124, Tryz.f124), (125, Tryz.f125), (126, Tryz.f126), (127, Tryz.f127), (128, Tryz.f128), (129, Tryz.f129), (130, Tryz.f130), (131, Tryz.f131), (132, Tryz.f132), (133, Tryz.f133), (134, Tryz.f134), (135, Tryz.f135), (136, Tryz.f136), (137, Tryz.f137), (138, Tryz.f138), (139, Tryz.f139), (140, Tryz.f140), (141, Tryz.f141), (142, Tryz.f142), (143, Tryz.f143), (144, Tryz.f144), (145, Tryz.f145), (146, Tryz.f146), (147, Tryz.f147), (148, Tryz.f148), (149, Tryz.f149), (150, Tryz.f150), (151, Tryz.f151), (152, Tryz.f152), (153, Tryz.f153), (154, Tryz.f154), (155, Tryz.f155), (156, Tryz.f156), (157, Tryz.f157), (158, Tryz.f158), (159, Tryz.f159), (160, Tryz.f160), (161, Tryz.f161), (162, Tryz.f162), (163, Tryz.f163), (164, Tryz.f164)]
theorem ft_ok : FtAll Tryz.prog ft := ⟨Tryz.func2, Tryz.func3, Tryz.func4, Tryz.func5, Tryz.func6, Tryz.func7, Tryz.func8, Tryz.func9, Tryz.func10, Tryz.func11, Tryz.func12, Tryz.func13, Tryz.func14, Tryz.func15, Tryz.func16, Tryz.func17, Tryz.func18, Tryz.func19, Tryz.func20, Tryz.func21, Tryz.func22, Tryz.func23, Tryz.func24, Tryz.func25, Tryz.func26, Tryz.func27, Tryz.func28, Tryz.func29, Tryz.func30, Tryz.func31, Tryz.func32, Tryz.func33, Tryz.func34, Tryz.func35, Tryz.func36, Tryz.func37, Tryz.func38, Tryz.func39, Tryz.func40, Tryz.func41, Tryz.func42, Tryz.func43, Tryz.func44, Tryz.func45, Tryz.func46, Tryz.func47, Tryz.func48, Tryz.func49, Tryz.func50, Tryz.func51, Tryz.func52, Tryz.func53, Tryz.func54, Tryz.func55, Tryz.func56, Tryz.func57, Tryz.func58, Tryz.func59, Tryz.func60, Tryz.func61, Tryz.func62, Tryz.func63, Tryz.func64, Tryz.func65, Tryz.func66, Tryz.func67, Tryz.func68, Tryz.func69, Tryz.func70, Tryz.func71, Tryz.func72, Tryz.func73, Tryz.func74, Tryz.func75, Tryz.func76, Tryz.func77, Tryz.func78, Tryz.func79, Tryz.func80, Tryz.func81, Tryz.func82, Tryz.func83, Tryz.func84, Tryz.func85, Tryz.func86, Tryz.func87, Tryz.func88, Tryz.func89, Tryz.func90, Tryz.func91, Tryz.func92, Tryz.func93, Tryz.func94, Tryz.func95, Tryz.func96, Tryz.func97, Tryz.func98, Tryz.func99, Tryz.func100, Tryz.func101, Tryz.func102, Tryz.func103, Tryz.func104, Tryz.func105, Tryz.func106, Tryz.func107, Tryz.func108, Tryz.func109, Tryz.func110, Tryz.func111, Tryz.func112, Tryz.func113, Tryz.func114, Tryz.func115, Tryz.func116, Tryz.func117, Tryz.func118, Tryz.func119, Tryz.func120, Tryz.func121, Tryz.func122, Tryz.func123, Tryz.func124, Tryz.func125, Tryz.func126, Tryz.func127, Tryz.func128, Tryz.func129, Tryz.func130, Tryz.func131, Tryz.func132, Tryz.func133, Tryz.func134, Tryz.func135, Tryz.func136, Tryz.func137, Tryz.func138, Tryz.func139, Tryz.func140, Tryz.func141, Tryz.func142, Tryz.func143, Tryz.func144, Tryz.func145, Tryz.func146, Tryz.func147, Tryz.func148, Tryz.func149, Tryz.func150, Tryz.func151, Tryz.func152, Tryz.func153, Tryz.func154, Tryz.func155, Tryz.func156, Tryz.func157, Tryz.func158, Tryz.func159, Tryz.func160, Tryz.func161, Tryz.func162, Tryz.func163, Tryz.func164, trivial⟩
end Go.Proofs.YtcaiedfkohigjaaGreat
/- What a seat's contexts need. -/
namespace Go.Proofs.YtcaiedfkohigjaaGreat
open Go.RowKit
/-- The known functions are what they're said to be. -/
def EnvAll (P : Program) : Env → Prop
  | [] => True
  | p :: l => (callable P p.1 = true ∧ SpecOk P p.1 p.2 ∧ ∀ g, p.2.mut_ = some g → MCon P p.1 g) ∧ EnvAll P l
theorem EnvAll.ok {P : Program} : ∀ {l : Env}, EnvAll P l → EnvOk P l
  | [], _, f, fn, h => by simp [lookE] at h
  | (k, x) :: l, ⟨h1, h2⟩, f, fn, h => by
    simp only [lookE] at h
    split at h
    · rename_i hb
      have := Nat.eq_of_beq_eq_true hb
      subst this
      injection h with h
      subst h
      exact h1
    · exact EnvAll.ok h2 f fn h
theorem ctx_ok {E : Env} {N : NT} (h : EnvAll Tryz.prog E) : (Ctx.mk Tryz.prog ft tys E N).Ok := ⟨tys_ok, h.ok, ft_ok.look, mixed_ok⟩
end Go.Proofs.YtcaiedfkohigjaaGreat
/- integer: trim, signed, split, FromInt64, compare. -/
namespace Go.Proofs.YtcaiedfkohigjaaGreat
open Go.RowKit
def LimS (l : List Int) : Prop := Lim l ∧ l.length ≤ 1000000000
instance (l : List Int) : Decidable (LimS l) := by unfold LimS; infer_instance
theorem wlen {n : Nat} (h1 : 0 < n) (h2 : n ≤ 9223372036854775807) : IntKind.i64.wrap ((n : Int) - 1) = ((n - 1 : Nat) : Int) := by rw [wrap64 (by omega) (by omega)]; omega
theorem val_zeros : ∀ {l : List Int}, (∀ j (hj : j < l.length), l[j] = 0) → val l = 0
  | [], _ => rfl
  | x :: l, h => by
    have h0 := h 0 (by simp)
    have := val_zeros (l := l) fun j hj => h (j + 1) (by simpa using hj)
    simp only [List.getElem_cons_zero] at h0
    simp only [val]
    omega
theorem val_take {l : List Int} {n : Nat} (h : ∀ j (hj : j < l.length), n ≤ j → l[j] = 0) : val (l.take n) = val l := by
  rw [val_split l n, val_zeros (l := l.drop n) fun j hj => by
    rw [List.getElem_drop]; exact h _ _ (by omega)]
  simp
theorem can_take {l : List Int} {n : Nat} (hl : Lim l) (hn : n ≤ l.length) (h : ∀ j (hj : j < l.length), n ≤ j → l[j] = 0) (hz : n = 0 ∨ ∃ hj : n - 1 < l.length, l[n - 1] ≠ 0) : l.take n = limbs (val l).toNat := by
  rw [← val_take h]
  apply can_eq
  refine ⟨hl.take n, ?_⟩
  rcases Nat.eq_zero_or_pos n with h0 | h0
  · subst h0; simp
  · obtain ⟨hj, hz⟩ := hz.resolve_left (by omega)
    rw [List.getLast?_eq_getElem?, List.length_take, Nat.min_eq_left hn, List.getElem?_take_of_lt (by omega), List.getElem?_eq_getElem hj]
    simpa using hz
def trm_nt : NT := [((120, 4), { keep := [0], pure_ := [(0, .int .u32)], hl := 0 })]
noncomputable def trm_C : Ctx := ⟨Tryz.prog, ft, tys, [], trm_nt⟩
def trm_h4 (s0 : List Int) : Cfg := ⟨120, [.blk 0, .seq 13], [(0, .d (.sl (.int .u32)) s0)], [], 0, []⟩
def trm_t (k : Nat → Cfg → Option (List RV)) (a : List Int) : Option (List RV) := k 4 (trm_h4 a)
theorem trm_eq (k : Nat → Cfg → Option (List RV)) (a : List Int) : go Tryz.prog ft tys [] trm_nt k 4000 (start 120 [.d (.sl (.int .u32)) a]) (.node 0) = trm_t k a := (go2_eq _ _ _ _ _ _ _ _ _).symm.trans (show go2 Tryz.prog ft tys [] trm_nt k 4000 (start 120 [.d (.sl (.int .u32)) a]) (.node 0) = trm_t k a by kernel_rfl)
theorem trm_s (a : List Int) {rX : List RV} (hX : ∃ nX, trm_t (trm_C.k nX) a = some rX) : trm_C.Res 120 [.d (.sl (.int .u32)) a] rX := by
  obtain ⟨nX, hX⟩ := hX
  exact ⟨nX, (trm_eq _ a).trans hX⟩
def trm_h4_t (k : Nat → Cfg → Option (List RV)) (s0 : List Int) : Option (List RV) := match decide ((s0.length : Int) > 0) with | true => (match getI s0 (IntKind.i64.wrap ((s0.length : Int) - 1)) with | some x1 => (match x1 == 0 with | true => (match decide ((0 : Int) ≤ 0 ∧ 0 ≤ IntKind.i64.wrap ((s0.length : Int) - 1) ∧ IntKind.i64.wrap ((s0.length : Int) - 1) ≤ (s0.length : Int)) with | true => k 4 (trm_h4 ((s0.take (IntKind.i64.wrap ((s0.length : Int) - 1)).toNat).drop (0 : Int).toNat)) | false => none) | false => some [RV.d (.sl (.int .u32)) s0]) | none => none) | false => some [RV.d (.sl (.int .u32)) s0]
theorem trm_h4_eq (k : Nat → Cfg → Option (List RV)) (s0 : List Int) : go Tryz.prog ft tys [] trm_nt k 4000 { trm_h4 s0 with K := .lp 4 :: (trm_h4 s0).K } (.node 5) = trm_h4_t k s0 := (go2_eq _ _ _ _ _ _ _ _ _).symm.trans (show go2 Tryz.prog ft tys [] trm_nt k 4000 { trm_h4 s0 with K := .lp 4 :: (trm_h4 s0).K } (.node 5) = trm_h4_t k s0 by kernel_rfl)
theorem trm_h4_s (s0 : List Int) {rX : List RV} (hX : ∃ nX, trm_h4_t (trm_C.k nX) s0 = some rX) : trm_C.Runs 4 (trm_h4 s0) rX := by
  obtain ⟨nX, hX⟩ := hX
  exact ⟨nX + 1, (trm_h4_eq _ s0).trans hX⟩
def sgd_nt : NT := [((81, 6), { keep := [0, 1, 4, 5], hl := 1 })]
noncomputable def sgd_C : Ctx := ⟨Tryz.prog, ft, tys, [], sgd_nt⟩
def sgd_h6 (neg : Bool) (l : List Int) (s5 : Int) : Cfg := ⟨81, [.blk 0, .seq 15], [(0, SB neg), (1, .d (.sl (.int .u32)) l), (4, .box 0 0), (5, SI s5)], [.box 39 [SB false, .nil]], 0, []⟩
def sgd_t (k : Nat → Cfg → Option (List RV)) (neg : Bool) (l : List Int) : Option (List RV) := k 6 (sgd_h6 neg l (l.length : Int))
theorem sgd_eq (k : Nat → Cfg → Option (List RV)) (neg : Bool) (l : List Int) : go Tryz.prog ft tys [] sgd_nt k 4000 (start 81 [SB neg, .d (.sl (.int .u32)) l]) (.node 0) = sgd_t k neg l := (go2_eq _ _ _ _ _ _ _ _ _).symm.trans (show go2 Tryz.prog ft tys [] sgd_nt k 4000 (start 81 [SB neg, .d (.sl (.int .u32)) l]) (.node 0) = sgd_t k neg l by kernel_rfl)
theorem sgd_s (neg : Bool) (l : List Int) {rX : List RV} (hX : ∃ nX, sgd_t (sgd_C.k nX) neg l = some rX) : sgd_C.Res 81 [SB neg, .d (.sl (.int .u32)) l] rX := by
  obtain ⟨nX, hX⟩ := hX
  exact ⟨nX, (sgd_eq _ neg l).trans hX⟩
def sgd_h6_t (k : Nat → Cfg → Option (List RV)) (neg : Bool) (l : List Int) (s5 : Int) : Option (List RV) := match decide (s5 > 0) with | true => (match getI l (IntKind.i64.wrap (s5 - 1)) with | some x1 => (match x1 == 0 with | true => k 6 (sgd_h6 neg l (IntKind.i64.wrap (s5 - 1))) | false => (match neg with | true => (match decide ((0 : Int) ≤ 0 ∧ 0 ≤ s5 ∧ s5 ≤ s5 ∧ s5 ≤ (l.length : Int)) with | true => some [RV.d (.st (.pair .bool (.sl (.int .u32)))) (decide (s5 > 0), (l.take (s5).toNat).drop (0 : Int).toNat)] | false => none) | false => (match decide ((0 : Int) ≤ 0 ∧ 0 ≤ s5 ∧ s5 ≤ s5 ∧ s5 ≤ (l.length : Int)) with | true => some [RV.d (.st (.pair .bool (.sl (.int .u32)))) (false, (l.take (s5).toNat).drop (0 : Int).toNat)] | false => none))) | none => none) | false => (match neg with | true => (match decide ((0 : Int) ≤ 0 ∧ 0 ≤ s5 ∧ s5 ≤ s5 ∧ s5 ≤ (l.length : Int)) with | true => some [RV.d (.st (.pair .bool (.sl (.int .u32)))) (decide (s5 > 0), (l.take (s5).toNat).drop (0 : Int).toNat)] | false => none) | false => (match decide ((0 : Int) ≤ 0 ∧ 0 ≤ s5 ∧ s5 ≤ s5 ∧ s5 ≤ (l.length : Int)) with | true => some [RV.d (.st (.pair .bool (.sl (.int .u32)))) (false, (l.take (s5).toNat).drop (0 : Int).toNat)] | false => none))
theorem sgd_h6_eq (k : Nat → Cfg → Option (List RV)) (neg : Bool) (l : List Int) (s5 : Int) : go Tryz.prog ft tys [] sgd_nt k 4000 { sgd_h6 neg l s5 with K := .lp 6 :: (sgd_h6 neg l s5).K } (.node 7) = sgd_h6_t k neg l s5 := (go2_eq _ _ _ _ _ _ _ _ _).symm.trans (show go2 Tryz.prog ft tys [] sgd_nt k 4000 { sgd_h6 neg l s5 with K := .lp 6 :: (sgd_h6 neg l s5).K } (.node 7) = sgd_h6_t k neg l s5 by kernel_rfl)
theorem sgd_h6_s (neg : Bool) (l : List Int) (s5 : Int) {rX : List RV} (hX : ∃ nX, sgd_h6_t (sgd_C.k nX) neg l s5 = some rX) : sgd_C.Runs 6 (sgd_h6 neg l s5) rX := by
  obtain ⟨nX, hX⟩ := hX
  exact ⟨nX + 1, (sgd_h6_eq _ neg l s5).trans hX⟩
def spl_nt : NT := []
noncomputable def spl_C : Ctx := ⟨Tryz.prog, ft, tys, [], spl_nt⟩
def spl_t (_k : Nat → Cfg → Option (List RV)) (u : Int) : Option (List RV) := some [RV.new 137 (.int .u32) ([IntKind.u32.wrap (Int.tmod u 1000000000), IntKind.u32.wrap (Int.tmod (IntKind.u64.wrap (Int.tdiv u 1000000000)) 1000000000), IntKind.u32.wrap (IntKind.u64.wrap (Int.tdiv (IntKind.u64.wrap (Int.tdiv u 1000000000)) 1000000000))])]
theorem spl_eq (k : Nat → Cfg → Option (List RV)) (u : Int) : go Tryz.prog ft tys [] spl_nt k 4000 (start 89 [.d (.int .u64) u]) (.node 0) = spl_t k u := (go2_eq _ _ _ _ _ _ _ _ _).symm.trans (show go2 Tryz.prog ft tys [] spl_nt k 4000 (start 89 [.d (.int .u64) u]) (.node 0) = spl_t k u by kernel_rfl)
theorem spl_s (u : Int) {rX : List RV} (hX : ∃ nX, spl_t (spl_C.k nX) u = some rX) : spl_C.Res 89 [.d (.int .u64) u] rX := by
  obtain ⟨nX, hX⟩ := hX
  exact ⟨nX, (spl_eq _ u).trans hX⟩
theorem trm_loop (l : List Int) (hl : Lim l) (hs : l.length ≤ 1000000000) : ∀ (n : Nat), n ≤ l.length → (∀ j (hj : j < l.length), n ≤ j → l[j] = 0) → trm_C.Runs 4 (trm_h4 (l.take n)) [.d (.sl (.int .u32)) (limbs (val l).toNat)] := by
  intro n
  induction n with
  | zero =>
    intro _ h
    refine trm_h4_s _ ⟨0, ?_⟩
    rw [← can_take hl (Nat.zero_le _) h (.inl rfl)]
    rfl
  | succ n ih =>
    intro hn h
    have hlen : (l.take (n + 1)).length = n + 1 := by rw [List.length_take, Nat.min_eq_left hn]
    have hget : (l.take (n + 1))[n]? = some l[n] := by rw [List.getElem?_take_of_lt (by omega), List.getElem?_eq_getElem (by omega)]
    by_cases hz : l[n] = 0
    · obtain ⟨q, hq⟩ := ih (by omega) fun j hj hk => by
        rcases Nat.eq_or_lt_of_le hk with e | e
        · subst e; exact hz
        · exact h j hj e
      refine trm_h4_s _ ⟨q, ?_⟩
      unfold trm_h4_t
      rw [hlen, decide_eq_true (by omega), wlen (by omega) (by omega), getI_nat, show n + 1 - 1 = n from rfl, hget]
      dsimp only
      rw [hz, decide_eq_true (show (0 : Int) ≤ 0 ∧ (0 : Int) ≤ (n : Int) ∧ (n : Int) ≤ ((n + 1 : Nat) : Int) by omega), toNat_nat, List.take_take, Nat.min_eq_left (by omega)]
      exact hq
    · refine trm_h4_s _ ⟨0, ?_⟩
      unfold trm_h4_t
      rw [hlen, decide_eq_true (by omega), wlen (by omega) (by omega), getI_nat, show n + 1 - 1 = n from rfl, hget]
      dsimp only
      rw [show (l[n] == 0) = false by simpa using hz, ← can_take hl hn h (.inr ⟨Nat.lt_of_succ_le hn, hz⟩)]
theorem trm_con (a : List Int) (h : LimS a) : Con Tryz.prog 120 [.d (.sl (.int .u32)) a] [.d (.sl (.int .u32)) (limbs (val a).toNat)] := by
  obtain ⟨q, hq⟩ := trm_loop a h.1 h.2 a.length (Nat.le_refl _) (fun j hj hk => by omega)
  rw [List.take_length] at hq
  exact Ctx.Res.con (C := trm_C) (ctx_ok (E := []) trivial) (trm_s _ ⟨q, hq⟩) (fn := Tryz.f120) (by kernel_rfl) (by kernel_rfl)
/-- A sign and limbs, as an integer. -/
def sgnI (neg : Bool) (v : Int) : Int := bif neg then -v else v
theorem encI_sgn (neg : Bool) {v : Int} (h : 0 ≤ v) : encI (sgnI neg v) = (neg && decide (0 < v), limbs v.toNat) := by
  unfold encI sgnI
  cases neg
  · simp only [cond_false, Bool.false_and]
    rw [decide_eq_false (by omega), show v.natAbs = v.toNat by omega]
  · simp only [cond_true, Bool.true_and]
    rw [show (-v).natAbs = v.toNat by omega]
    by_cases h0 : 0 < v
    · rw [decide_eq_true h0, decide_eq_true (by omega)]
    · rw [decide_eq_false h0, decide_eq_false (by omega)]
theorem sgd_loop (neg : Bool) (l : List Int) (hl : Lim l) (hs : l.length ≤ 1000000000) : ∀ (n : Nat), n ≤ l.length → (∀ j (hj : j < l.length), n ≤ j → l[j] = 0) → sgd_C.Runs 6 (sgd_h6 neg l (n : Int)) [.d (.st (.pair .bool (.sl (.int .u32)))) (encI (sgnI neg (val l)))] := by
  intro n
  have hv := val_nonneg hl
  induction n with
  | zero =>
    intro _ h
    refine sgd_h6_s _ _ _ ⟨0, ?_⟩
    rw [encI_sgn neg hv, ← can_take hl (Nat.zero_le _) h (.inl rfl)]
    have h0 : val l = 0 := by rw [← val_take h]; rfl
    unfold sgd_h6_t
    rw [decide_eq_false (show ¬ ((0 : Nat) : Int) > 0 by decide), decide_eq_true (show (0 : Int) ≤ 0 ∧ (0 : Int) ≤ ((0 : Nat) : Int) ∧ ((0 : Nat) : Int) ≤ ((0 : Nat) : Int) ∧ ((0 : Nat) : Int) ≤ (l.length : Int) by omega), h0]
    cases neg <;> rfl
  | succ n ih =>
    intro hn h
    by_cases hz : l[n] = 0
    · obtain ⟨q, hq⟩ := ih (by omega) fun j hj hk => by
        rcases Nat.eq_or_lt_of_le hk with e | e
        · subst e; exact hz
        · exact h j hj e
      refine sgd_h6_s _ _ _ ⟨q, ?_⟩
      unfold sgd_h6_t
      rw [decide_eq_true (by omega), wlen (by omega) (by omega), getI_nat, show n + 1 - 1 = n from rfl, List.getElem?_eq_getElem (by omega)]
      dsimp only
      rw [hz]
      exact hq
    · refine sgd_h6_s _ _ _ ⟨0, ?_⟩
      have hct := can_take hl hn h (.inr ⟨Nat.lt_of_succ_le hn, hz⟩)
      have hpos : 0 < val l := by
        rcases Int.lt_or_le 0 (val l) with h1 | h1
        · exact h1
        · exfalso
          rw [show (val l).toNat = 0 by omega, limbs_zero] at hct
          have : (l.take (n + 1)).length = 0 := by rw [hct]; rfl
          rw [List.length_take, Nat.min_eq_left hn] at this
          omega
      rw [encI_sgn neg hv, ← hct]
      unfold sgd_h6_t
      rw [decide_eq_true (show ((n + 1 : Nat) : Int) > 0 by omega), wlen (by omega) (by omega), getI_nat, show n + 1 - 1 = n from rfl, List.getElem?_eq_getElem (by omega)]
      dsimp only
      rw [show (l[n] == 0) = false by simpa using hz, decide_eq_true (show (0 : Int) ≤ 0 ∧ (0 : Int) ≤ ((n + 1 : Nat) : Int) ∧ ((n + 1 : Nat) : Int) ≤ ((n + 1 : Nat) : Int) ∧ ((n + 1 : Nat) : Int) ≤ (l.length : Int) by omega), decide_eq_true hpos, toNat_nat]
      cases neg <;> rfl
theorem sgd_con (neg : Bool) (l : List Int) (h : LimS l) : Con Tryz.prog 81 [.d .bool neg, .d (.sl (.int .u32)) l] [.d (.st (.pair .bool (.sl (.int .u32)))) (encI (sgnI neg (val l)))] := by
  obtain ⟨q, hq⟩ := sgd_loop neg l h.1 h.2 l.length (Nat.le_refl _) (fun j hj hk => by omega)
  exact Ctx.Res.con (C := sgd_C) (ctx_ok (E := []) trivial) (sgd_s _ _ ⟨q, hq⟩) (fn := Tryz.f81) (by kernel_rfl) (by kernel_rfl)
def u64P (u : Int) : Prop := 0 ≤ u ∧ u < 18446744073709551616
instance (u : Int) : Decidable (u64P u) := by unfold u64P; infer_instance
theorem wr32 {x : Int} (h1 : 0 ≤ x) (h2 : x < 4294967296) : IntKind.u32.wrap x = x := by rw [IntKind.wrap_u32]; omega
theorem wr64 {x : Int} (h1 : 0 ≤ x) (h2 : x < 18446744073709551616) : IntKind.u64.wrap x = x := by rw [IntKind.wrap_u64]; omega
theorem tdivP {a b : Int} (h : 0 ≤ a) : Int.tdiv a b = a / b := Int.tdiv_eq_ediv_of_nonneg h
theorem tmodP {a b : Int} (h : 0 ≤ a) : Int.tmod a b = a % b := Int.tmod_eq_emod_of_nonneg h
theorem spl_con (u : Int) (h : u64P u) : Con Tryz.prog 89 [.d (.int .u64) u] [.new 137 (.int .u32) (dig 3 u)] := by
  refine Ctx.Res.con (C := spl_C) (ctx_ok (E := []) trivial) (spl_s _ ⟨0, ?_⟩) (fn := Tryz.f89) (by kernel_rfl) (by kernel_rfl)
  obtain ⟨h1, h2⟩ := h
  unfold spl_t
  rw [tdivP h1, tmodP h1, wr64 (x := u / 1000000000) (by omega) (by omega), tmodP (by omega), tdivP (a := u / 1000000000) (by omega), wr32 (x := u % 1000000000) (by omega) (by omega), wr32 (x := u / 1000000000 % 1000000000) (by omega) (by omega), wr64 (x := u / 1000000000 / 1000000000) (by omega) (by omega), wr32 (x := u / 1000000000 / 1000000000) (by omega) (by omega)]
  have e : dig 3 u = [u % 1000000000, u / 1000000000 % 1000000000, u / 1000000000 / 1000000000] := by
    simp only [dig]
    rw [show u / 1000000000 / 1000000000 % 1000000000 = u / 1000000000 / 1000000000 by omega]
  rw [e]
def trm_sp : Spec := { keep := false, run := fun _ args k => match args with
  | [.d (.sl (.int .u32)) a] => match decide (LimS a) with
    | true => k [RV.d (.sl (.int .u32)) (limbs (val a).toNat)]
    | false => none
  | _ => none }
theorem trm_spec : callable Tryz.prog 120 = true ∧ SpecOk Tryz.prog 120 trm_sp ∧ ∀ g, trm_sp.mut_ = some g → MCon Tryz.prog 120 g := by
  refine ⟨by kernel_rfl, fun R args k r h => ?_, fun g h => by simp [trm_sp] at h⟩
  unfold trm_sp at h
  dsimp only at h
  split at h <;> try (cases h; done)
  split at h <;> try (cases h; done)
  rename_i hd
  exact ⟨_, h, trm_con _ (of_decide_eq_true hd)⟩
def sgd_sp : Spec := { keep := false, run := fun _ args k => match args with
  | [.d .bool neg, .d (.sl (.int .u32)) l] => match decide (LimS l) with
    | true => k [RV.d (.st (.pair .bool (.sl (.int .u32)))) (encI (sgnI neg (val l)))]
    | false => none
  | _ => none }
theorem sgd_spec : callable Tryz.prog 81 = true ∧ SpecOk Tryz.prog 81 sgd_sp ∧ ∀ g, sgd_sp.mut_ = some g → MCon Tryz.prog 81 g := by
  refine ⟨by kernel_rfl, fun R args k r h => ?_, fun g h => by simp [sgd_sp] at h⟩
  unfold sgd_sp at h
  dsimp only at h
  split at h <;> try (cases h; done)
  split at h <;> try (cases h; done)
  rename_i hd
  exact ⟨_, h, sgd_con _ _ (of_decide_eq_true hd)⟩
def spl_sp : Spec := { keep := true, run := fun _ args k => match args with
  | [.d (.int .u64) u] => match decide (u64P u) with
    | true => k [RV.new 137 (.int .u32) (dig 3 u)]
    | false => none
  | _ => none }
theorem spl_spec : callable Tryz.prog 89 = true ∧ SpecOk Tryz.prog 89 spl_sp ∧ ∀ g, spl_sp.mut_ = some g → MCon Tryz.prog 89 g := by
  refine ⟨by kernel_rfl, fun R args k r h => ?_, fun g h => by simp [spl_sp] at h⟩
  unfold spl_sp at h
  dsimp only at h
  split at h <;> try (cases h; done)
  split at h <;> try (cases h; done)
  rename_i hd
  exact ⟨_, h, spl_con _ (of_decide_eq_true hd)⟩
def envBg1 : Env := [(120, trm_sp), (81, sgd_sp), (89, spl_sp)]
theorem envBg1_ok : EnvAll Tryz.prog envBg1 := ⟨trm_spec, sgd_spec, spl_spec, trivial⟩
def fri_nt : NT := []
noncomputable def fri_C : Ctx := ⟨Tryz.prog, ft, tys, envBg1, fri_nt⟩
def fri_t (_k : Nat → Cfg → Option (List RV)) (n : Int) : Option (List RV) := match decide (n < 0) with | true => (match decide (u64P (IntKind.u64.wrap (0 - (IntKind.u64.wrap n)))) with | true => (match decide (LimS (dig 3 (IntKind.u64.wrap (0 - (IntKind.u64.wrap n))))) with | true => some [RV.d (.st (.pair .bool (.sl (.int .u32)))) (encI (sgnI (decide (n < 0)) (val (dig 3 (IntKind.u64.wrap (0 - (IntKind.u64.wrap n)))))))] | false => none) | false => none) | false => (match decide (u64P (IntKind.u64.wrap n)) with | true => (match decide (LimS (dig 3 (IntKind.u64.wrap n))) with | true => some [RV.d (.st (.pair .bool (.sl (.int .u32)))) (encI (sgnI (decide (n < 0)) (val (dig 3 (IntKind.u64.wrap n)))))] | false => none) | false => none)
theorem fri_eq (k : Nat → Cfg → Option (List RV)) (n : Int) : go Tryz.prog ft tys envBg1 fri_nt k 4000 (start 60 [SI n]) (.node 0) = fri_t k n := (go2_eq _ _ _ _ _ _ _ _ _).symm.trans (show go2 Tryz.prog ft tys envBg1 fri_nt k 4000 (start 60 [SI n]) (.node 0) = fri_t k n by kernel_rfl)
theorem fri_s (n : Int) {rX : List RV} (hX : ∃ nX, fri_t (fri_C.k nX) n = some rX) : fri_C.Res 60 [SI n] rX := by
  obtain ⟨nX, hX⟩ := hX
  exact ⟨nX, (fri_eq _ n).trans hX⟩
def cpr_nt : NT := [((80, 24), { keep := [0, 1, 5], hl := 0 })]
noncomputable def cpr_C : Ctx := ⟨Tryz.prog, ft, tys, envBg1, cpr_nt⟩
def cpr_h24 (a : List Int) (b : List Int) (s5 : Int) : Cfg := ⟨80, [.blk 0, .seq 49], [(0, .d (.sl (.int .u32)) (limbs (val a).toNat)), (1, .d (.sl (.int .u32)) (limbs (val b).toNat)), (5, SI s5)], [], 0, []⟩
def cpr_t (k : Nat → Cfg → Option (List RV)) (a : List Int) (b : List Int) : Option (List RV) := match decide (LimS a) with | true => (match decide (LimS b) with | true => (match ((limbs (val a).toNat).length : Int) != ((limbs (val b).toNat).length : Int) with | true => (match decide (((limbs (val a).toNat).length : Int) < ((limbs (val b).toNat).length : Int)) with | true => some [RV.d (.int .i64) (-1)] | false => some [RV.d (.int .i64) 1]) | false => k 24 (cpr_h24 a b (IntKind.i64.wrap (((limbs (val a).toNat).length : Int) - 1)))) | false => none) | false => none
theorem cpr_eq (k : Nat → Cfg → Option (List RV)) (a : List Int) (b : List Int) : go Tryz.prog ft tys envBg1 cpr_nt k 4000 (start 80 [.d (.sl (.int .u32)) a, .d (.sl (.int .u32)) b]) (.node 0) = cpr_t k a b := (go2_eq _ _ _ _ _ _ _ _ _).symm.trans (show go2 Tryz.prog ft tys envBg1 cpr_nt k 4000 (start 80 [.d (.sl (.int .u32)) a, .d (.sl (.int .u32)) b]) (.node 0) = cpr_t k a b by kernel_rfl)
theorem cpr_s (a : List Int) (b : List Int) {rX : List RV} (hX : ∃ nX, cpr_t (cpr_C.k nX) a b = some rX) : cpr_C.Res 80 [.d (.sl (.int .u32)) a, .d (.sl (.int .u32)) b] rX := by
  obtain ⟨nX, hX⟩ := hX
  exact ⟨nX, (cpr_eq _ a b).trans hX⟩
def cpr_h24_t (k : Nat → Cfg → Option (List RV)) (a : List Int) (b : List Int) (s5 : Int) : Option (List RV) := match decide (s5 ≥ 0) with | true => (match getI (limbs (val a).toNat) s5 with | some x1 => (match getI (limbs (val b).toNat) s5 with | some x2 => (match decide (x1 < x2) with | true => some [RV.d (.int .i64) (-1)] | false => (match getI (limbs (val a).toNat) s5 with | some x3 => (match getI (limbs (val b).toNat) s5 with | some x4 => (match decide (x3 > x4) with | true => some [RV.d (.int .i64) 1] | false => k 24 (cpr_h24 a b (IntKind.i64.wrap (s5 - 1)))) | none => none) | none => none)) | none => none) | none => none) | false => some [RV.d (.int .i64) 0]
theorem cpr_h24_eq (k : Nat → Cfg → Option (List RV)) (a : List Int) (b : List Int) (s5 : Int) : go Tryz.prog ft tys envBg1 cpr_nt k 4000 { cpr_h24 a b s5 with K := .lp 24 :: (cpr_h24 a b s5).K } (.node 25) = cpr_h24_t k a b s5 := (go2_eq _ _ _ _ _ _ _ _ _).symm.trans (show go2 Tryz.prog ft tys envBg1 cpr_nt k 4000 { cpr_h24 a b s5 with K := .lp 24 :: (cpr_h24 a b s5).K } (.node 25) = cpr_h24_t k a b s5 by kernel_rfl)
theorem cpr_h24_s (a : List Int) (b : List Int) (s5 : Int) {rX : List RV} (hX : ∃ nX, cpr_h24_t (cpr_C.k nX) a b s5 = some rX) : cpr_C.Runs 24 (cpr_h24 a b s5) rX := by
  obtain ⟨nX, hX⟩ := hX
  exact ⟨nX + 1, (cpr_h24_eq _ a b s5).trans hX⟩
def i64P (n : Int) : Prop := -9223372036854775808 ≤ n ∧ n ≤ 9223372036854775807
instance (n : Int) : Decidable (i64P n) := by unfold i64P; infer_instance
theorem dig3_val {u : Int} (h : u64P u) : val (dig 3 u) = u := dig_val 3 u h.1 (Int.lt_of_lt_of_le h.2 (by decide))
theorem dig_limS {n : Nat} (h : n ≤ 1000000000) (v : Int) : LimS (dig n v) := ⟨dig_lim n v, by rw [dig_len]; exact h⟩
theorem fri_con (n : Int) (h : i64P n) : Con Tryz.prog 60 [.d (.int .i64) n] [.d (.st (.pair .bool (.sl (.int .u32)))) (encI n)] := by
  refine Ctx.Res.con (C := fri_C) (ctx_ok envBg1_ok) (fri_s _ ⟨0, ?_⟩) (fn := Tryz.f60) (by kernel_rfl) (by kernel_rfl)
  obtain ⟨h1, h2⟩ := h
  unfold fri_t
  by_cases hn : n < 0
  · have e : IntKind.u64.wrap (0 - IntKind.u64.wrap n) = -n := by rw [IntKind.wrap_u64, IntKind.wrap_u64]; omega
    have hu : u64P (-n) := ⟨by omega, by omega⟩
    rw [decide_eq_true hn]
    dsimp only
    rw [e, decide_eq_true hu, decide_eq_true (dig_limS (n := 3) (by decide) (-n)), dig3_val hu]
    simp [sgnI]
  · have e : IntKind.u64.wrap n = n := wr64 (by omega) (by omega)
    have hu : u64P n := ⟨by omega, by omega⟩
    rw [decide_eq_false hn]
    dsimp only
    rw [e, decide_eq_true hu, decide_eq_true (dig_limS (n := 3) (by decide) n), dig3_val hu]
    rfl
theorem val_at {l : List Int} {n : Nat} (h : n < l.length) : val l = val (l.take n) + pw n * (l[n] + 1000000000 * val (l.drop (n + 1))) := by
  rw [val_split l n, Nat.min_eq_left (Nat.le_of_lt h), List.drop_eq_getElem_cons h]
  rfl
theorem cmp_at {a b : List Int} (ha : Lim a) (hb : Lim b) {n : Nat} (h1 : n < a.length) (h2 : n < b.length) (hd : a.drop (n + 1) = b.drop (n + 1)) (hlt : a[n] < b[n]) : val a < val b := by
  rw [val_at h1, val_at h2, hd]
  have k1 := val_lt (ha.take n)
  have k2 := val_nonneg (hb.take n)
  rw [List.length_take, Nat.min_eq_left (Nat.le_of_lt h1)] at k1
  have hp := pw_pos n
  have := Int.mul_le_mul_of_nonneg_left (show a[n] + 1000000000 * val (b.drop (n + 1)) + 1 ≤ b[n] + 1000000000 * val (b.drop (n + 1)) by omega) (Int.le_of_lt hp)
  rw [Int.mul_add, Int.mul_one] at this
  omega
theorem cmpI_lt {a b : Int} (h : a < b) : cmpI a b = -1 := by unfold cmpI; rw [decide_eq_true h]; rfl
theorem cmpI_gt {a b : Int} (h : b < a) : cmpI a b = 1 := by unfold cmpI; rw [decide_eq_false (by omega), decide_eq_true h]; rfl
theorem cmpI_eq (a : Int) : cmpI a a = 0 := by unfold cmpI; rw [decide_eq_false (by omega)]; rfl
theorem len_cmp {a b : Nat} (h : (limbs a).length < (limbs b).length) : a < b := by
  rcases Nat.lt_or_ge a b with h1 | h1
  · exact h1
  · have := limbs_len_le (n := b) (k := (limbs a).length) (by
      have := val_lt (limbs_lim a)
      rw [limbs_val] at this
      omega)
    omega
theorem cpr_loop (a b : List Int) (hl : (limbs (val a).toNat).length = (limbs (val b).toNat).length) (ha : 0 ≤ val a) (hb : 0 ≤ val b) (hs : (limbs (val a).toNat).length ≤ 1000000000) : ∀ (n : Nat), n ≤ (limbs (val a).toNat).length → (limbs (val a).toNat).drop n = (limbs (val b).toNat).drop n →
    cpr_C.Runs 24 (cpr_h24 a b ((n : Int) - 1)) [.d (.int .i64) (cmpI (val a) (val b))] := by
  have va := limbs_val (val a).toNat
  have vb := limbs_val (val b).toNat
  have la := limbs_lim (val a).toNat
  have lb := limbs_lim (val b).toNat
  intro n
  induction n with
  | zero =>
    intro _ h
    refine cpr_h24_s _ _ _ ⟨0, ?_⟩
    have e : val a = val b := by simp only [List.drop_zero] at h; rw [h] at va; omega
    unfold cpr_h24_t
    rw [decide_eq_false (by omega), e, cmpI_eq]
  | succ n ih =>
    intro hn h
    have h1 : n < (limbs (val a).toNat).length := by omega
    have h2 : n < (limbs (val b).toNat).length := by omega
    rcases Int.lt_trichotomy (limbs (val a).toNat)[n] (limbs (val b).toNat)[n] with hc | hc | hc
    · refine cpr_h24_s _ _ _ ⟨0, ?_⟩
      have := cmp_at la lb h1 h2 h hc
      unfold cpr_h24_t
      rw [show ((n + 1 : Nat) : Int) - 1 = (n : Int) by omega, decide_eq_true (by omega), getI_nat, getI_nat, List.getElem?_eq_getElem h1, List.getElem?_eq_getElem h2]
      dsimp only
      rw [decide_eq_true hc, cmpI_lt (by omega)]
    · obtain ⟨q, hq⟩ := ih (by omega) (by rw [List.drop_eq_getElem_cons h1, List.drop_eq_getElem_cons h2, hc, h])
      refine cpr_h24_s _ _ _ ⟨q, ?_⟩
      unfold cpr_h24_t
      rw [show ((n + 1 : Nat) : Int) - 1 = (n : Int) by omega, decide_eq_true (by omega), getI_nat, getI_nat, List.getElem?_eq_getElem h1, List.getElem?_eq_getElem h2]
      dsimp only
      rw [decide_eq_false (by omega), decide_eq_false (by omega), wrap64 (x := (n : Int) - 1) (by omega) (by omega)]
      exact hq
    · refine cpr_h24_s _ _ _ ⟨0, ?_⟩
      have := cmp_at lb la h2 h1 h.symm hc
      unfold cpr_h24_t
      rw [show ((n + 1 : Nat) : Int) - 1 = (n : Int) by omega, decide_eq_true (by omega), getI_nat, getI_nat, List.getElem?_eq_getElem h1, List.getElem?_eq_getElem h2]
      dsimp only
      rw [decide_eq_false (by omega), decide_eq_true hc, cmpI_gt (by omega)]
theorem limbs_len_of {l : List Int} (h : Lim l) : (limbs (val l).toNat).length ≤ l.length := limbs_len_le (by have := val_lt h; have := val_nonneg h; omega)
theorem cpr_con (a b : List Int) (h : LimS a ∧ LimS b) : Con Tryz.prog 80 [.d (.sl (.int .u32)) a, .d (.sl (.int .u32)) b] [.d (.int .i64) (cmpI (val a) (val b))] := by
  refine Ctx.Res.con (C := cpr_C) (ctx_ok envBg1_ok) ?_ (fn := Tryz.f80) (by kernel_rfl) (by kernel_rfl)
  obtain ⟨ha, hb⟩ := h
  have la := limbs_len_of ha.1
  have lb := limbs_len_of hb.1
  have na := val_nonneg ha.1
  have nb := val_nonneg hb.1
  have hsa := ha.2
  have hsb := hb.2
  by_cases hl : (limbs (val a).toNat).length = (limbs (val b).toNat).length
  · obtain ⟨q, hq⟩ := cpr_loop a b hl na nb (by omega) _ (Nat.le_refl _) (by rw [List.drop_length, hl, List.drop_length])
    refine cpr_s _ _ ⟨q, ?_⟩
    unfold cpr_t
    rw [decide_eq_true ha, decide_eq_true hb, show (((limbs (val a).toNat).length : Int) != ((limbs (val b).toNat).length : Int)) = false by simp [hl], wrap64 (x := ((limbs (val a).toNat).length : Int) - 1) (by omega) (by omega)]
    exact hq
  · refine cpr_s _ _ ⟨0, ?_⟩
    unfold cpr_t
    rw [decide_eq_true ha, decide_eq_true hb, show (((limbs (val a).toNat).length : Int) != ((limbs (val b).toNat).length : Int)) = true by simp; omega]
    dsimp only
    rcases Nat.lt_or_gt_of_ne hl with h1 | h1
    · have := len_cmp h1
      rw [decide_eq_true (by omega), cmpI_lt (by omega)]
    · have := len_cmp h1
      rw [decide_eq_false (by omega), cmpI_gt (by omega)]
end Go.Proofs.YtcaiedfkohigjaaGreat

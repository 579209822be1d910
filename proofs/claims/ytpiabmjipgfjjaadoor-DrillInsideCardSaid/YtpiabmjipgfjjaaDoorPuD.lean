/- Data: parts, casts, zeros; the tables of types. -/
import Derived.Test.YtpiabmjipgfjjaaDoorPuC
import Derived.Deep.MidRow
import Derived.Laws.Tables
namespace Go.Proofs.YtpiabmjipgfjjaaDoor
open Go.RowKit

theorem castD_some {a b : Ty} {x : a.D} {y : b.D} (h : castD a b x = some y) : ∃ e : a = b, y = e ▸ x := by
  unfold castD at h
  split at h
  · rename_i e _
    injection h with h
    exact ⟨e, h.symm⟩
  · cases h
theorem castD_rd {A : Nat → Prop} {w : World} {a b : Ty} {x : a.D} {y : b.D} {cs : List Value} (h : castD a b x = some y) (hr : a.rd A w cs x) : b.rd A w cs y := by
  obtain ⟨rfl, rfl⟩ := castD_some h
  exact hr
theorem rd_flat {A : Nat → Prop} {w : World} : ∀ {t : Ty} {cs : List Value} {x : t.D}, t.flat = true → t.rd A w cs x → cs = t.cells x
  | .int _, _, _, _, h => h
  | .bool, _, _, _, h => h
  | .str, _, _, _, h => h
  | .pair a b, _, _, hf, ⟨l1, l2, h0, h1, h2⟩ => by
    simp only [Ty.flat, Bool.and_eq_true] at hf
    rw [h0, rd_flat hf.1 h1, rd_flat hf.2 h2]; rfl
  | .st a, _, _, hf, h => rd_flat (t := a) hf h
  | .sl _, _, _, hf, _ => by simp [Ty.flat] at hf
theorem cells_rd {A : Nat → Prop} {w : World} : ∀ {t : Ty} {x : t.D}, t.flat = true → t.rd A w (t.cells x) x
  | .int _, _, _ => rfl
  | .bool, _, _ => rfl
  | .str, _, _ => rfl
  | .pair a b, x, hf => by
    simp only [Ty.flat, Bool.and_eq_true] at hf
    exact ⟨_, _, rfl, cells_rd hf.1, cells_rd hf.2⟩
  | .st a, _, hf => cells_rd (t := a) hf
  | .sl _, _, hf => by simp [Ty.flat] at hf
theorem nil_rd {A : Nat → Prop} {w : World} {e : Ty} : (Ty.sl e).rd A w [.slice none 0 0] [] := ⟨none, 0, 0, [], rfl, rfl, Nat.le_refl _, Nat.zero_le _, trivial, fun h => absurd h (by omega)⟩
theorem rd_leaf_mkV {A : Nat → Prop} {w : World} {t : Ty} {v : Value} {x : t.D} (hs : t.isSt = false) (h : t.rd A w [v] x) : mkV t [v] = v := by simp [mkV, hs]
theorem leaf_rel {G : List Value} {A : Nat → Prop} {w : World} {t : Ty} {cs : List Value} {x : t.D} (hs : t.isSt = false) (hn : t.n = 1) (h : t.rd A w cs x) : ∃ v, cs = [v] ∧ Rel1 G A w (.d t x) v := by
  have hl := (Ty.rd_len h)
  match cs, hl with
  | [v], _ => exact ⟨v, rfl, [v], h, by simp [mkV, hs]⟩
  | [], hl => rw [hn] at hl; simp at hl
  | _ :: _ :: _, hl => rw [hn] at hl; simp at hl
theorem split_rel {G : List Value} {A : Nat → Prop} {w : World} : ∀ {t : Ty} {cs : List Value} {x : t.D}, t.rd A w cs x → all2 (Rel1 G A w) (t.split x) cs
  | .int k, cs, x, h => by obtain ⟨v, rfl, hv⟩ := leaf_rel (G := G) (t := .int k) rfl rfl h; exact ⟨hv, trivial⟩
  | .bool, cs, x, h => by obtain ⟨v, rfl, hv⟩ := leaf_rel (G := G) (t := .bool) rfl rfl h; exact ⟨hv, trivial⟩
  | .str, cs, x, h => by obtain ⟨v, rfl, hv⟩ := leaf_rel (G := G) (t := .str) rfl rfl h; exact ⟨hv, trivial⟩
  | .sl e, cs, x, h => by obtain ⟨v, rfl, hv⟩ := leaf_rel (G := G) (t := .sl e) rfl rfl h; exact ⟨hv, trivial⟩
  | .pair a b, _, _, ⟨l1, l2, h0, h1, h2⟩ => by rw [h0]; exact all2_append (split_rel h1) (split_rel h2)
  | .st a, _, _, h => split_rel (t := a) h
theorem rel_leaf {G : List Value} {A : Nat → Prop} {w : World} {t : Ty} {v : Value} {x : t.D} (hs : t.isSt = false) (hn : t.n = 1) (h : Rel1 G A w (.d t x) v) : t.rd A w [v] x := by
  obtain ⟨cs, h1, rfl⟩ := h
  have hl := (Ty.rd_len h1)
  match cs, hl with
  | [v], _ => simpa [mkV, hs] using h1
  | [], hl => rw [hn] at hl; simp at hl
  | _ :: _ :: _, hl => rw [hn] at hl; simp at hl
theorem leaf?_rd {G : List Value} {A : Nat → Prop} {w : World} {t : Ty} (hs : t.isSt = false) (hn : t.n = 1) {l r : List SV} {x : t.D} {vs : List Value} (h : leaf? t l = some (x, r)) (ha : all2 (Rel1 G A w) l vs) :
    ∃ v1 v2, vs = v1 ++ v2 ∧ t.rd A w v1 x ∧ all2 (Rel1 G A w) r v2 := by
  unfold leaf? at h
  split at h
  · rename_i t' x' r'
    split at h
    · rename_i y hy
      simp only [Option.some.injEq, Prod.mk.injEq] at h
      obtain ⟨rfl, rfl⟩ := h
      match vs, ha with
      | v :: vs, ⟨h1, h2⟩ =>
        obtain ⟨rfl, rfl⟩ := castD_some hy
        exact ⟨[v], vs, rfl, rel_leaf hs hn h1, h2⟩
    · cases h
  · cases h
theorem join_rd {G : List Value} {A : Nat → Prop} {w : World} : ∀ {t : Ty} {l r : List SV} {x : t.D} {vs : List Value}, t.join l = some (x, r) → all2 (Rel1 G A w) l vs → ∃ v1 v2, vs = v1 ++ v2 ∧ t.rd A w v1 x ∧ all2 (Rel1 G A w) r v2
  | .int _, _, _, _, _, h, ha => leaf?_rd rfl rfl h ha
  | .bool, _, _, _, _, h, ha => leaf?_rd rfl rfl h ha
  | .str, _, _, _, _, h, ha => leaf?_rd rfl rfl h ha
  | .st a, _, _, _, _, h, ha => join_rd (t := a) h ha
  | .pair a b, l, r, x, vs, h, ha => by
    simp only [Ty.join] at h
    split at h
    · rename_i x1 r1 h1
      split at h
      · rename_i x2 r2 h2
        simp only [Option.some.injEq, Prod.mk.injEq] at h
        obtain ⟨rfl, rfl⟩ := h
        obtain ⟨v1, v2, rfl, g1, g2⟩ := join_rd h1 ha
        obtain ⟨v3, v4, rfl, g3, g4⟩ := join_rd h2 g2
        exact ⟨v1 ++ v3, v4, by rw [List.append_assoc], ⟨v1, v3, rfl, g1, g3⟩, g4⟩
      · cases h
    · cases h
  | .sl e, l, r, x, vs, h, ha => by
    simp only [Ty.join] at h
    split at h
    · rename_i r'
      simp only [Option.some.injEq, Prod.mk.injEq] at h
      obtain ⟨rfl, rfl⟩ := h
      match vs, ha with
      | v :: vs, ⟨h1, h2⟩ => exact ⟨[v], vs, rfl, by rw [show v = .slice none 0 0 from h1]; exact nil_rd, h2⟩
    · exact leaf?_rd rfl rfl h ha

theorem take_self {α : Type} (l : List α) (n : Nat) (h : l.length = n) : (l.drop 0).take n = l := by rw [List.drop_zero, ← h, List.take_length]
theorem sub_rd {A : Nat → Prop} {w : World} : ∀ {e : Ty} {cs : List Value} {x : e.D} {off : Nat} {t : Ty} {y : t.D}, e.rd A w cs x → e.sub x off t = some y → t.rd A w ((cs.drop off).take t.n) y := by
  have lf : ∀ {e : Ty} {cs : List Value} {x : e.D} {off : Nat} {t : Ty} {y : t.D}, e.rd A w cs x → (match Nat.beq off 0 with | true => castD e t x | false => none) = some y → t.rd A w ((cs.drop off).take t.n) y := by
    intro e cs x off t y hr h
    split at h
    · rename_i h0
      have : off = 0 := Nat.eq_of_beq_eq_true h0
      subst this
      obtain ⟨rfl, rfl⟩ := castD_some h
      rw [take_self _ _ (Ty.rd_len hr)]
      exact hr
    · cases h
  intro e
  induction e with
  | int k => intro cs x off t y hr h; exact lf hr h
  | bool => intro cs x off t y hr h; exact lf hr h
  | str => intro cs x off t y hr h; exact lf hr h
  | sl e => intro cs x off t y hr h; exact lf hr h
  | st a ih =>
    intro cs x off t y hr h
    simp only [Ty.sub] at h
    split at h
    · rename_i z h0 h1
      injection h with h
      subst h
      exact lf (e := .st a) hr (by rw [h0]; exact h1)
    · exact ih hr h
  | pair a b iha ihb =>
    intro cs x off t y hr h
    obtain ⟨l1, l2, rfl, h1, h2⟩ := hr
    simp only [Ty.sub] at h
    split at h
    · rename_i hb
      have hlt := Nat.le_of_ble_eq_true hb
      have := iha h1 h
      have hl := (Ty.rd_len this)
      have hl1 := (Ty.rd_len h1)
      rw [List.length_take, List.length_drop] at hl
      rw [List.drop_append_of_le_length (by omega), List.take_append_of_le_length (by rw [List.length_drop]; omega)]
      exact this
    · rename_i hb
      have hge : a.n ≤ off := by
        rcases Nat.lt_or_ge off a.n with hlt | hge
        · have : Nat.ble (off + 1) a.n = true := Nat.ble_eq_true_of_le hlt
          rw [this] at hb; cases hb
        · exact hge
      have := ihb h2 h
      have hl1 := (Ty.rd_len h1)
      rw [List.drop_append, List.drop_eq_nil_of_le (by omega), List.nil_append, hl1]
      exact this

/-! Tables of types. -/
def zc : Ty → List Value
  | .int k => [.int k 0]
  | .bool => [.bool false]
  | .str => [.string ⟨#[]⟩]
  | .sl _ => [.slice none 0 0]
  | .pair a b => zc a ++ zc b
  | .st a => zc a
theorem zc_rd {A : Nat → Prop} {w : World} : ∀ {t : Ty}, t.rd A w (zc t) t.zero
  | .int _ => rfl
  | .bool => rfl
  | .str => rfl
  | .sl _ => nil_rd
  | .pair _ _ => ⟨_, _, rfl, zc_rd, zc_rd⟩
  | .st a => zc_rd (t := a)
def eqZ : Value → Value → Bool
  | .int k a, .int k' b => decide (k = k') && decide (a = b)
  | .bool a, .bool b => a == b
  | .string a, .string b => a.data.toList.isEmpty && b.data.toList.isEmpty
  | .slice none 0 0, .slice none 0 0 => true
  | _, _ => false
theorem eqZ_eq {a b : Value} (h : eqZ a b = true) : a = b := by
  unfold eqZ at h
  split at h
  · simp at h; rw [h.1, h.2]
  · simp at h; rw [h]
  · rename_i s t
    obtain ⟨⟨s⟩⟩ := s
    obtain ⟨⟨t⟩⟩ := t
    simp at h
    rw [h.1, h.2]
  · rfl
  · cases h
def eqZL : List Value → List Value → Bool
  | [], [] => true
  | a :: l, b :: m => eqZ a b && eqZL l m
  | _, _ => false
theorem eqZL_eq : ∀ {l m : List Value}, eqZL l m = true → l = m
  | [], [], _ => rfl
  | a :: l, b :: m, h => by simp only [eqZL, Bool.and_eq_true] at h; rw [eqZ_eq h.1, eqZL_eq h.2]
def isZ (t : Ty) : Option Value → Bool
  | some (.agg cs) => t.isSt && eqZL cs.toList (zc t)
  | some v => !t.isSt && eqZL [v] (zc t)
  | none => false
theorem isZ_eq {t : Ty} {z : Option Value} (h : isZ t z = true) : z = some (mkV t (zc t)) := by
  unfold isZ at h
  split at h
  · rename_i cs
    simp only [Bool.and_eq_true] at h
    have := eqZL_eq h.2
    simp [mkV, h.1, ← this]
  · simp only [Bool.and_eq_true, Bool.not_eq_true'] at h
    have := eqZL_eq h.2
    simp [mkV, h.1, ← this]
  · cases h
theorem zc_len : ∀ t : Ty, (zc t).length = t.n
  | .int _ => rfl
  | .bool => rfl
  | .str => rfl
  | .sl _ => rfl
  | .pair a b => by simp [zc, Ty.n, zc_len a, zc_len b]
  | .st a => zc_len a
theorem isZ_one {t : Ty} {z : Option Value} (h : isZ t z = true) : t.isSt = true ∨ t.n = 1 := by
  unfold isZ at h
  split at h
  · simp only [Bool.and_eq_true] at h; exact .inl h.1
  · simp only [Bool.and_eq_true] at h
    have := eqZL_eq h.2
    exact .inr (by rw [← zc_len, ← this]; rfl)
  · cases h
def eqP : List (Nat × Nat) → List (Nat × Nat) → Bool
  | [], [] => true
  | (a, b) :: l, (c, d) :: m => Nat.beq a c && Nat.beq b d && Nat.ble 1 b && eqP l m
  | _, _ => false
theorem eqP_eq : ∀ {l m : List (Nat × Nat)}, eqP l m = true → l = m ∧ ∀ p ∈ l, 1 ≤ p.2
  | [], [], _ => ⟨rfl, by simp⟩
  | (a, b) :: l, (c, d) :: m, h => by
    simp only [eqP, Bool.and_eq_true] at h
    obtain ⟨⟨⟨h1, h2⟩, h3⟩, h4⟩ := h
    obtain ⟨rfl, h5⟩ := eqP_eq h4
    refine ⟨by rw [Nat.eq_of_beq_eq_true h1, Nat.eq_of_beq_eq_true h2], fun p hp => ?_⟩
    rcases List.mem_cons.1 hp with rfl | hp
    · exact Nat.le_of_ble_eq_true h3
    · exact h5 p hp
def chk (P : Program) (t : Nat) (i : TI) : Bool :=
  match P.info? t, P.underlying t with
  | some inf, some d => Nat.beq inf.size i.ty.n && (!i.z || isZ i.ty inf.zero) && (match d with
    | .struct fs => i.ty.isSt && (match fs.toList.mapM (fun f => (P.info? f.type).map fun i => (f.offset, i.size)) with | some pl => eqP pl i.pl && Nat.beq i.len 0 | none => false)
    | .array n e => i.ty.isSt && Nat.beq n i.len && Nat.ble 2 n && i.pl.isEmpty && (match P.info? e with | some j => Nat.beq j.size i.el | none => false)
    | .slice e => (match i.ty, P.info? e with | .sl et, some j => i.pl.isEmpty && Nat.beq e i.el && Nat.beq j.size et.n && Nat.ble 1 et.n && Nat.beq j.bytes i.byt && isZ et j.zero | _, _ => false)
    | _ => i.pl.isEmpty && (match i.ty with | .st _ => false | .sl _ => false | .pair _ _ => false | _ => true))
  | _, _ => false
def chkAll (P : Program) : TT → Bool
  | [] => true
  | (t, i) :: r => chk P t i && chkAll P r
theorem chkAll_look {P : Program} : ∀ {T : TT} {t : Nat} {i : TI}, chkAll P T = true → lookT T t = some i → chk P t i = true
  | [], _, _, _, h => by simp [lookT] at h
  | (k, x) :: r, t, i, hc, h => by
    simp only [chkAll, Bool.and_eq_true] at hc
    simp only [lookT] at h
    split at h
    · rename_i he
      have : k = t := Nat.eq_of_beq_eq_true he
      subst this
      injection h with h
      subst h
      exact hc.1
    · exact chkAll_look hc.2 h
theorem chk_size {P : Program} {t : Nat} {i : TI} (h : chk P t i = true) : (P.info? t).map (·.size) = some i.ty.n := by
  unfold chk at h
  split at h
  · rename_i inf d h1 h2
    simp only [Bool.and_eq_true] at h
    simp [h1, Nat.eq_of_beq_eq_true h.1.1]
  · cases h
theorem chk_st {P : Program} {t : Nat} {i : TI} (h : chk P t i = true) : ∃ d, P.underlying t = some d ∧ d.isRow = i.ty.isSt := by
  unfold chk at h
  split at h
  · rename_i inf d h1 h2
    refine ⟨d, h2, ?_⟩
    simp only [Bool.and_eq_true] at h
    have h := h.2
    cases d <;> simp only [Bool.and_eq_true] at h <;> simp only [TypeDesc.isRow]
    case struct => exact h.1.symm
    case array => exact h.1.1.1.1.symm
    case slice => split at h <;> first | (rename_i hh _; rw [hh]; rfl) | cases h
    all_goals (obtain ⟨_, h⟩ := h; (split at h <;> first | cases h | skip) <;> (generalize i.ty = t at *; cases t <;> simp_all [Ty.isSt]))
  · cases h
theorem chk_zero {P : Program} {t : Nat} {i : TI} (h : chk P t i = true) (hz : i.z = true) : ∃ inf, P.info? t = some inf ∧ inf.zero = some (mkV i.ty (zc i.ty)) := by
  unfold chk at h
  split at h
  · rename_i inf d h1 h2
    simp only [Bool.and_eq_true, hz] at h
    exact ⟨inf, h1, isZ_eq (by simpa using h.1.2)⟩
  · cases h
theorem chk_slice {P : Program} {t : Nat} {i : TI} {et : Ty} (h : chk P t i = true) (ht : i.ty = .sl et) : P.underlying t = some (.slice i.el) ∧ 0 < et.n ∧ ∃ j, P.info? i.el = some j ∧ j.size = et.n ∧ j.bytes = i.byt ∧ j.zero = some (mkV et (zc et)) ∧ (et.isSt = true ∨ et.n = 1) := by
  unfold chk at h
  split at h
  · rename_i inf d h1 h2
    simp only [Bool.and_eq_true] at h
    have h := h.2
    cases d <;> simp only [ht, Ty.isSt, Bool.and_eq_true, Bool.false_eq_true, false_and] at h
    case slice e =>
      split at h
      · rename_i et' j he hj
        injection he with he
        subst he
        simp only [Bool.and_eq_true] at h
        obtain ⟨⟨⟨⟨⟨_, h3⟩, h4⟩, h5⟩, h6⟩, h7⟩ := h
        have he := Nat.eq_of_beq_eq_true h3
        subst he
        exact ⟨h2, Nat.le_of_ble_eq_true h5, j, hj, Nat.eq_of_beq_eq_true h4, Nat.eq_of_beq_eq_true h6, isZ_eq h7, isZ_one h7⟩
      · cases h
    all_goals simp at h
  · cases h
theorem chk_field {P : Program} {t f : Nat} {i : TI} {p : Nat × Nat} (h : chk P t i = true) (hp : i.pl[f]? = some p) : ∃ fs fl inf, P.underlying t = some (.struct fs) ∧ fs[f]? = some fl ∧ fl.offset = p.1 ∧ P.info? fl.type = some inf ∧ inf.size ≠ 0 := by
  unfold chk at h
  split at h
  · rename_i inf d h1 h2
    simp only [Bool.and_eq_true] at h
    have h := h.2
    have emp : i.pl.isEmpty = true → False := fun he => by
      rw [List.isEmpty_iff] at he
      rw [he] at hp
      simp at hp
    match d, h, h2 with
    | .struct fs, h, h2 =>
      simp only [Bool.and_eq_true] at h
      obtain ⟨_, h⟩ := h
      split at h
      · rename_i pl hpl
        simp only [Bool.and_eq_true] at h
        obtain ⟨rfl, hp1⟩ := eqP_eq h.1
        have key : ∀ (l : List Field) (pl : List (Nat × Nat)) (f : Nat), l.mapM (fun f => (P.info? f.type).map fun i => (f.offset, i.size)) = some pl → pl[f]? = some p → ∃ fl inf, l[f]? = some fl ∧ fl.offset = p.1 ∧ P.info? fl.type = some inf ∧ inf.size = p.2 := by
          intro l
          induction l with
          | nil => intro pl f h1 h2; simp at h1; subst h1; simp at h2
          | cons x l ih =>
            intro pl f h1 h2
            simp only [List.mapM_cons, Option.bind_eq_bind, Option.pure_def] at h1
            cases hx : P.info? x.type with
            | none => simp [hx] at h1
            | some ix =>
              cases hr : l.mapM (fun f => (P.info? f.type).map fun i => (f.offset, i.size)) with
              | none => simp [hx, hr] at h1
              | some rest =>
                simp [hx, hr] at h1
                subst h1
                cases f with
                | zero => simp at h2; subst h2; exact ⟨x, ix, rfl, rfl, hx, rfl⟩
                | succ f => obtain ⟨fl, inf, g1, g2⟩ := ih rest f hr (by simpa using h2); exact ⟨fl, inf, by simpa using g1, g2⟩
        obtain ⟨fl, inf', g1, g2, g3, g4⟩ := key _ _ f hpl hp
        exact ⟨fs, fl, inf', h2, by simpa using g1, g2, g3, by have := hp1 p (List.mem_of_getElem? hp); omega⟩
      · cases h
    | .array n e, h, h2 => simp only [Bool.and_eq_true] at h; exact (emp h.1.2).elim
    | .slice e, h, h2 =>
      dsimp only at h
      split at h
      · simp only [Bool.and_eq_true] at h; exact (emp h.1.1.1.1.1).elim
      · cases h
    | .invalid, h, h2 | .bool, h, h2 | .int _, h, h2 | .float _, h, h2 | .complex _, h, h2 | .string, h, h2 | .pointer _, h, h2 | .map _ _, h, h2 | .chan _ _, h, h2 | .func _ _ _, h, h2 | .interface _, h, h2 | .tuple _, h, h2 | .named _ _, h, h2 | .unsafePointer, h, h2 => simp only [Bool.and_eq_true] at h; exact (emp h.1).elim
  · cases h
end Go.Proofs.YtpiabmjipgfjjaaDoor

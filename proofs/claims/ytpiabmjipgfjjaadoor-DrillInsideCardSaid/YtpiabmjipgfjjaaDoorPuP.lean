/- The pure machine and the machine: control. -/
import Derived.Test.YtpiabmjipgfjjaaDoorPuO
namespace Go.Proofs.YtpiabmjipgfjjaaDoor
open Go.RowKit

def InLoop (P : Program) (c : Code) (Q : Exit → Act → World → Prop) (a : Act) (w : World) : Prop :=
  ∀ (b : Frame) (k : List Go.Item) (cs : List Frame), ∃ e a' w', Q e a' w' ∧ Arrives P (lone (b.at a (.code c :: .inLoop c :: k)) cs w) b k cs e a' w'
section
variable {P : Program} {c : Code} {Q : Exit → Act → World → Prop} {a : Act} {w : World}
theorem InLoop.wp (h : InLoop P c Q a w) : (Code.loop c).wp P Q a w := by
  intro b k cs
  obtain ⟨e, a', w', hq, harr⟩ := h b k cs
  exact ⟨e, a', w', hq, .of_steps (.one step_loop) harr⟩
theorem InLoop.step (h : c.wp P (Exit.then (InLoop P c Q) Q) a w) : InLoop P c Q a w := by
  intro b k cs
  obtain ⟨e, a₁, w₁, hq, harr⟩ := h b (.inLoop c :: k) cs
  cases e with
  | normal =>
    obtain ⟨e₂, a₂, w₂, hq₂, harr₂⟩ := hq b k cs
    exact ⟨e₂, a₂, w₂, hq₂, .of_steps (Steps.trans harr (.one step_inLoop)) harr₂⟩
  | exit id => exact ⟨_, a₁, w₁, hq, .pass (x := .inLoop c) rfl (fun _ _ => .inl (by simp)) harr⟩
  | goto l => exact ⟨_, a₁, w₁, hq, .pass (x := .inLoop c) rfl (fun _ _ => .inl (by simp)) harr⟩
  | ret => exact ⟨_, a₁, w₁, hq, .pass (x := .inLoop c) rfl (fun _ _ => .inl (by simp)) harr⟩
  | panic ch => exact ⟨_, a₁, w₁, hq, .pass (x := .inLoop c) rfl (fun _ _ => .inl (by simp)) harr⟩
  | outgrown => exact ⟨_, a₁, w₁, hq, .pass (x := .inLoop c) rfl (fun _ _ => .inl (by simp)) harr⟩
end
theorem size_pos : ∀ c : Code, 0 < Code.size c := by intro c; cases c <;> simp [Code.size]
/-- Where the parts of a node lie. -/
theorem nth_none : ∀ (B : Code) (i : Nat), Code.size B ≤ i → nth B i = .skip := by
  intro B
  induction B with
  | seq a b iha ihb =>
    intro i h
    simp only [Code.size] at h
    cases i with
    | zero => omega
    | succ i =>
      simp only [nth]
      split
      · rename_i hb; have := Nat.le_of_ble_eq_true hb; omega
      · exact ihb _ (by omega)
  | cond x a b iha ihb =>
    intro i h
    simp only [Code.size] at h
    cases i with
    | zero => omega
    | succ i =>
      simp only [nth]
      split
      · rename_i hb; have := Nat.le_of_ble_eq_true hb; omega
      · exact ihb _ (by omega)
  | block id c ih => intro i h; simp only [Code.size] at h; cases i with | zero => omega | succ i => exact ih _ (by omega)
  | loop c ih => intro i h; simp only [Code.size] at h; cases i with | zero => omega | succ i => exact ih _ (by omega)
  | scope c ih => intro i h; simp only [Code.size] at h; cases i with | zero => omega | succ i => exact ih _ (by omega)
  | _ => intro i h; simp only [Code.size] at h; cases i with | zero => omega | succ i => rfl
theorem nth_two (a b : Code) (i : Nat) : (match Nat.ble (i + 1) (Code.size a) with | true => nth a i | false => nth b (i - Code.size a)) = if i < Code.size a then nth a i else nth b (i - Code.size a) := by
  by_cases h : i < Code.size a
  · rw [if_pos h, Nat.ble_eq_true_of_le h]
  · rw [if_neg h]
    cases hb : Nat.ble (i + 1) (Code.size a) with
    | true => exact absurd (Nat.le_of_ble_eq_true hb) (by omega)
    | false => rfl
theorem nth_zero (c : Code) : nth c 0 = c := by cases c <;> rfl
theorem nth_seq (a b : Code) (i : Nat) : nth (.seq a b) (i + 1) = if i < Code.size a then nth a i else nth b (i - Code.size a) := nth_two a b i
theorem nth_cond (x : Operand) (a b : Code) (i : Nat) : nth (.cond x a b) (i + 1) = if i < Code.size a then nth a i else nth b (i - Code.size a) := nth_two a b i
theorem nth_bound : ∀ (B : Code) (i : Nat), i < Code.size B → i + Code.size (nth B i) ≤ Code.size B := by
  intro B
  induction B with
  | seq a b iha ihb =>
    intro i h
    cases i with
    | zero => rw [nth_zero]; omega
    | succ i =>
      rw [nth_seq]
      simp only [Code.size] at h ⊢
      split
      · rename_i hi; have := iha i hi; omega
      · have := ihb (i - Code.size a) (by omega); omega
  | cond x a b iha ihb =>
    intro i h
    cases i with
    | zero => rw [nth_zero]; omega
    | succ i =>
      rw [nth_cond]
      simp only [Code.size] at h ⊢
      split
      · rename_i hi; have := iha i hi; omega
      · have := ihb (i - Code.size a) (by omega); omega
  | block id c ih => intro i h; cases i with | zero => rw [nth_zero]; omega | succ i => simp only [Code.size] at h ⊢; have := ih i (by omega); simp only [nth]; omega
  | loop c ih => intro i h; cases i with | zero => rw [nth_zero]; omega | succ i => simp only [Code.size] at h ⊢; have := ih i (by omega); simp only [nth]; omega
  | scope c ih => intro i h; cases i with | zero => rw [nth_zero]; omega | succ i => simp only [Code.size] at h ⊢; have := ih i (by omega); simp only [nth]; omega
  | _ => intro i h; cases i with | zero => rw [nth_zero]; omega | succ i => simp only [Code.size] at h; omega
/-- A node's subtree lies where it is looked for. -/
theorem nth_in : ∀ (B : Code) (i : Nat), i < Code.size B → ∀ j, j < Code.size (nth B i) → nth B (i + j) = nth (nth B i) j := by
  intro B
  induction B with
  | seq a b iha ihb =>
    intro i h j hj
    cases i with
    | zero => rw [nth_zero, Nat.zero_add]
    | succ i =>
      rw [nth_seq] at hj ⊢
      rw [show i + 1 + j = (i + j) + 1 by omega, nth_seq]
      simp only [Code.size] at h
      split at hj
      · rename_i hi
        have := nth_bound a i hi
        rw [if_pos hi, if_pos (by omega)]
        exact iha i hi j hj
      · rename_i hi
        rw [if_neg hi, if_neg (by omega), show i + j - Code.size a = (i - Code.size a) + j by omega]
        exact ihb (i - Code.size a) (by omega) j hj
  | cond x a b iha ihb =>
    intro i h j hj
    cases i with
    | zero => rw [nth_zero, Nat.zero_add]
    | succ i =>
      rw [nth_cond] at hj ⊢
      rw [show i + 1 + j = (i + j) + 1 by omega, nth_cond]
      simp only [Code.size] at h
      split at hj
      · rename_i hi
        have := nth_bound a i hi
        rw [if_pos hi, if_pos (by omega)]
        exact iha i hi j hj
      · rename_i hi
        rw [if_neg hi, if_neg (by omega), show i + j - Code.size a = (i - Code.size a) + j by omega]
        exact ihb (i - Code.size a) (by omega) j hj
  | block id c ih => intro i h j hj; cases i with | zero => rw [nth_zero, Nat.zero_add] | succ i => simp only [Code.size] at h; rw [show i + 1 + j = (i + j) + 1 by omega]; exact ih i (by omega) j hj
  | loop c ih => intro i h j hj; cases i with | zero => rw [nth_zero, Nat.zero_add] | succ i => simp only [Code.size] at h; rw [show i + 1 + j = (i + j) + 1 by omega]; exact ih i (by omega) j hj
  | scope c ih => intro i h j hj; cases i with | zero => rw [nth_zero, Nat.zero_add] | succ i => simp only [Code.size] at h; rw [show i + 1 + j = (i + j) + 1 by omega]; exact ih i (by omega) j hj
  | _ => intro i h j hj; cases i with | zero => rw [nth_zero, Nat.zero_add] | succ i => simp only [Code.size] at h; omega
theorem nth_lt {B : Code} {i : Nat} (h : nth B i ≠ .skip) : i < Code.size B := by
  rcases Nat.lt_or_ge i (Code.size B) with hlt | hge
  · exact hlt
  · exact absurd (nth_none B i hge) h
theorem kid_seq {B : Code} {i : Nat} {a b : Code} (h : nth B i = .seq a b) : nth B i = .seq (nth B (i + 1)) (nth B (i + 1 + Code.size a)) := by
  have hlt := nth_lt (B := B) (i := i) (by rw [h]; simp)
  have ha := size_pos a
  have hb := size_pos b
  have h1 := nth_in B i hlt 1 (by rw [h]; simp only [Code.size]; omega)
  have h2 := nth_in B i hlt (1 + Code.size a) (by rw [h]; simp only [Code.size]; omega)
  rw [h, show (1 : Nat) = 0 + 1 from rfl, nth_seq, if_pos ha, nth_zero] at h1
  rw [h, show 1 + Code.size a = Code.size a + 1 by omega, nth_seq, if_neg (by omega), Nat.sub_self, nth_zero] at h2
  rw [h, h1, show i + 1 + Code.size a = i + (Code.size a + 1) by omega, h2]
theorem kid_cond {B : Code} {i : Nat} {x : Operand} {a b : Code} (h : nth B i = .cond x a b) : nth B i = .cond x (nth B (i + 1)) (nth B (i + 1 + Code.size a)) := by
  have hlt := nth_lt (B := B) (i := i) (by rw [h]; simp)
  have ha := size_pos a
  have hb := size_pos b
  have h1 := nth_in B i hlt 1 (by rw [h]; simp only [Code.size]; omega)
  have h2 := nth_in B i hlt (1 + Code.size a) (by rw [h]; simp only [Code.size]; omega)
  rw [h, show (1 : Nat) = 0 + 1 from rfl, nth_cond, if_pos ha, nth_zero] at h1
  rw [h, show 1 + Code.size a = Code.size a + 1 by omega, nth_cond, if_neg (by omega), Nat.sub_self, nth_zero] at h2
  rw [h, h1, show i + 1 + Code.size a = i + (Code.size a + 1) by omega, h2]
theorem kid_block {B : Code} {i : Nat} {id : Nat} {c : Code} (h : nth B i = .block id c) : nth B i = .block id (nth B (i + 1)) := by
  have hlt := nth_lt (B := B) (i := i) (by rw [h]; simp)
  have hc := size_pos c
  have h1 := nth_in B i hlt 1 (by rw [h]; simp only [Code.size]; omega)
  rw [h] at h1
  rw [h, h1]
  show _ = Code.block id (nth c 0)
  rw [nth_zero]
theorem kid_loop {B : Code} {i : Nat} {c : Code} (h : nth B i = .loop c) : nth B i = .loop (nth B (i + 1)) := by
  have hlt := nth_lt (B := B) (i := i) (by rw [h]; simp)
  have hc := size_pos c
  have h1 := nth_in B i hlt 1 (by rw [h]; simp only [Code.size]; omega)
  rw [h] at h1
  rw [h, h1]
  show _ = Code.loop (nth c 0)
  rw [nth_zero]
end Go.Proofs.YtpiabmjipgfjjaaDoor

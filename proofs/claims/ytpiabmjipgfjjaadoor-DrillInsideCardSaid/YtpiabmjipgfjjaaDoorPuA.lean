/- Pure data: what memory reads as; the values of the pure machine. -/
import Derived.Test.YtpiabmjipgfjjaaDoorEng4
namespace Go.Proofs.YtpiabmjipgfjjaaDoor
open Go.RowKit

inductive Ty where
  | int (k : IntKind)
  | bool
  | str
  | sl (e : Ty)
  | pair (a b : Ty)
  | st (a : Ty)
@[reducible] def Ty.D : Ty → Type
  | .int _ => Int
  | .bool => Bool
  | .str => ByteArray
  | .sl e => List e.D
  | .pair a b => a.D × b.D
  | .st a => a.D
/-- The number of cells. -/
def Ty.n : Ty → Nat
  | .pair a b => a.n + b.n
  | .st a => a.n
  | _ => 1

def all2 {α β : Type} (R : α → β → Prop) : List α → List β → Prop
  | [], [] => True
  | a :: l, b :: m => R a b ∧ all2 R l m
  | _, _ => False
theorem all2_mono {α β : Type} {R S : α → β → Prop} (h : ∀ a b, R a b → S a b) : ∀ {l : List α} {m : List β}, all2 R l m → all2 S l m
  | [], [], _ => trivial
  | _ :: _, _ :: _, ⟨h1, h2⟩ => ⟨h _ _ h1, all2_mono h h2⟩
theorem all2_len {α β : Type} {R : α → β → Prop} : ∀ {l : List α} {m : List β}, all2 R l m → l.length = m.length
  | [], [], _ => rfl
  | _ :: _, _ :: _, ⟨_, h2⟩ => by simp [all2_len h2]
theorem all2_get {α β : Type} {R : α → β → Prop} : ∀ {l : List α} {m : List β}, all2 R l m → ∀ (i : Nat) (b : β), m[i]? = some b → ∃ a, l[i]? = some a ∧ R a b
  | [], [], _, i, b, h => by simp at h
  | a :: l, b' :: m, ⟨h1, h2⟩, 0, b, h => by simp at h; subst h; exact ⟨a, rfl, h1⟩
  | a :: l, b' :: m, ⟨h1, h2⟩, i + 1, b, h => by simp at h; obtain ⟨x, hx, hr⟩ := all2_get h2 i b h; exact ⟨x, by simpa using hx, hr⟩
theorem all2_getL {α β : Type} {R : α → β → Prop} : ∀ {l : List α} {m : List β}, all2 R l m → ∀ (i : Nat) (a : α), l[i]? = some a → ∃ b, m[i]? = some b ∧ R a b
  | [], [], _, i, b, h => by simp at h
  | a :: l, b' :: m, ⟨h1, h2⟩, 0, b, h => by simp at h; subst h; exact ⟨b', rfl, h1⟩
  | a :: l, b' :: m, ⟨h1, h2⟩, i + 1, b, h => by simp at h; obtain ⟨x, hx, hr⟩ := all2_getL h2 i b h; exact ⟨x, by simpa using hx, hr⟩
theorem all2_append {α β : Type} {R : α → β → Prop} : ∀ {l : List α} {m : List β} {l' : List α} {m' : List β}, all2 R l m → all2 R l' m' → all2 R (l ++ l') (m ++ m')
  | [], [], _, _, _, h => h
  | _ :: _, _ :: _, _, _, ⟨h1, h2⟩, h => ⟨h1, all2_append h2 h⟩
theorem all2_take {α β : Type} {R : α → β → Prop} : ∀ {l : List α} {m : List β} (k : Nat), all2 R l m → all2 R (l.take k) (m.take k)
  | [], [], k, _ => by simp [all2]
  | _ :: _, _ :: _, 0, _ => by simp [all2]
  | _ :: _, _ :: _, k + 1, ⟨h1, h2⟩ => by simp only [List.take_succ_cons]; exact ⟨h1, all2_take k h2⟩
theorem all2_drop {α β : Type} {R : α → β → Prop} : ∀ {l : List α} {m : List β} (k : Nat), all2 R l m → all2 R (l.drop k) (m.drop k)
  | [], [], k, _ => by simp [all2]
  | _ :: _, _ :: _, 0, h => h
  | _ :: _, _ :: _, k + 1, ⟨h1, h2⟩ => by simp only [List.drop_succ_cons]; exact all2_drop k h2
theorem all2_set {α β : Type} {R : α → β → Prop} : ∀ {l : List α} {m : List β} (k : Nat) {a : α} {b : β}, all2 R l m → R a b → all2 R (l.set k a) (m.set k b)
  | [], [], k, _, _, _, _ => by simp [all2]
  | _ :: _, _ :: _, 0, _, _, ⟨_, h2⟩, h => ⟨h, h2⟩
  | _ :: _, _ :: _, k + 1, _, _, ⟨h1, h2⟩, h => ⟨h1, all2_set k h2 h⟩
theorem all2_of {α β : Type} {R : α → β → Prop} : ∀ {l : List α} {m : List β}, l.length = m.length → (∀ (i : Nat) (a : α) (b : β), l[i]? = some a → m[i]? = some b → R a b) → all2 R l m
  | [], [], _, _ => trivial
  | a :: l, b :: m, hl, h => ⟨h 0 a b rfl rfl, all2_of (by simpa using hl) (fun i a b h1 h2 => h (i + 1) a b (by simpa using h1) (by simpa using h2))⟩
  | [], _ :: _, hl, _ => by simp at hl
  | _ :: _, [], hl, _ => by simp at hl

/-- Cells from an address on. -/
def cellsAt (w : World) (b off : Nat) (cs : List Value) : Prop := ∀ i v, cs[i]? = some v → w.cell? ⟨b, off + i, none⟩ = some v

/-- In w the cells cs read as x; whatever lies behind them lies in blocks of A. -/
def Ty.rd (A : Nat → Prop) (w : World) : (t : Ty) → List Value → t.D → Prop
  | .int k, cs, x => cs = [.int k x]
  | .bool, cs, x => cs = [.bool x]
  | .str, cs, x => cs = [.string x]
  | .pair a b, cs, x => ∃ l1 l2, cs = l1 ++ l2 ∧ a.rd A w l1 x.1 ∧ b.rd A w l2 x.2
  | .st a, cs, x => a.rd A w cs x
  | .sl e, cs, x => ∃ p n c css, cs = [.slice p n c] ∧ x.length = n ∧ n ≤ c ∧ c ≤ maxLen ∧ all2 (fun l y => e.rd A w l y) css x ∧
      (0 < n → ∃ b off, p = some ⟨b, off, none⟩ ∧ A b ∧ b < w.heap.size ∧ cellsAt w b off css.flatten)

theorem Ty.rd_len {A : Nat → Prop} {w : World} : ∀ {t : Ty} {cs : List Value} {x : t.D}, t.rd A w cs x → cs.length = t.n
  | .int _, _, _, h => by simp only [Ty.rd] at h; subst h; rfl
  | .bool, _, _, h => by simp only [Ty.rd] at h; subst h; rfl
  | .str, _, _, h => by simp only [Ty.rd] at h; subst h; rfl
  | .pair a b, _, _, h => by
    obtain ⟨l1, l2, rfl, h1, h2⟩ := h
    simp [Ty.n, Ty.rd_len h1, Ty.rd_len h2]
  | .st a, _, _, h => Ty.rd_len (t := a) h
  | .sl e, _, _, h => by obtain ⟨p, n, c, css, rfl, _⟩ := h; rfl

/-- Nothing that is read has turned. -/
structure Keeps (A A' : Nat → Prop) (w w' : World) : Prop where
  size : w.heap.size ≤ w'.heap.size
  sub : ∀ b, b < w.heap.size → A b → A' b
  block : ∀ b, b < w.heap.size → A b → w'.heap[b]? = w.heap[b]?
theorem Keeps.cells {A A' : Nat → Prop} {w w' : World} (h : Keeps A A' w w') {b off : Nat} {cs : List Value} (hb : b < w.heap.size) (hA : A b) (hc : cellsAt w b off cs) : cellsAt w' b off cs :=
  fun i v hv => (World.cell?_of_block (a := ⟨b, off + i, none⟩) (h.block b hb hA)).trans (hc i v hv)
theorem Ty.rd_keep {A A' : Nat → Prop} {w w' : World} (hk : Keeps A A' w w') : ∀ {t : Ty} {cs : List Value} {x : t.D}, t.rd A w cs x → t.rd A' w' cs x
  | .int _, _, _, h => h
  | .bool, _, _, h => h
  | .str, _, _, h => h
  | .pair _ _, _, _, ⟨l1, l2, h0, h1, h2⟩ => ⟨l1, l2, h0, Ty.rd_keep hk h1, Ty.rd_keep hk h2⟩
  | .st a, _, _, h => Ty.rd_keep (t := a) hk h
  | .sl e, _, _, ⟨p, n, c, css, h0, h1, h2, h3, h4, h5⟩ => ⟨p, n, c, css, h0, h1, h2, h3, all2_mono (fun _ _ h => Ty.rd_keep hk h) h4, fun hn => by
      obtain ⟨b, off, g1, g2, g3, g4⟩ := h5 hn
      exact ⟨b, off, g1, hk.sub b g3 g2, Nat.lt_of_lt_of_le g3 hk.size, hk.cells g3 g2 g4⟩⟩

/-- A datum's value: a struct is one value of many cells. -/
def Ty.isSt : Ty → Bool
  | .st _ => true
  | _ => false
def mkV (t : Ty) (cs : List Value) : Value := match t.isSt with
  | true => .agg cs.toArray
  | false => cs.headD undef

inductive SV where
  | d (t : Ty) (x : t.D)
  | nil
  | box (j off : Nat)
  | elt (e : Ty) (x : e.D) (off : Nat)
  | own (j : Nat)
  | oelt (j sz i off : Nat)
  | clo (f : Nat) (caps : List Nat)
  | tup (l : List SV)
  | undef
  | dead
  | cut (e : Ty) (xs : List e.D)
  | osl (j sz lo n : Nat)
abbrev SI (x : Int) : SV := .d (.int .i64) x
abbrev SB (b : Bool) : SV := .d .bool b

/-- What the call owns: variables, rows that it makes. -/
inductive Item where
  | box (t : TypeId) (cells : List SV)
  | row (et : TypeId) (e : Ty) (xs : List e.D)
  | gone
def blkOf : Value → Option Nat
  | .pointer (some a) => some a.block
  | .slice (some a) _ _ => some a.block
  | _ => none

/-- The relation of a machine's value to a pure one; G: the owned things' own addresses. -/
def Rel1 (G : List Value) (A : Nat → Prop) (w : World) : SV → Value → Prop
  | .d t x, v => ∃ cs, t.rd A w cs x ∧ v = mkV t cs
  | .nil, v => v = .slice none 0 0
  | .box j off, v => ∃ b, G[j]? = some (.pointer (some ⟨b, 0, none⟩)) ∧ v = .pointer (some ⟨b, off, none⟩)
  | .elt e x off, v => ∃ b o cs, v = .pointer (some ⟨b, o + off, none⟩) ∧ A b ∧ b < w.heap.size ∧ e.rd A w cs x ∧ cellsAt w b o cs
  | .own j, v => G[j]? = some v
  | .oelt j sz i off, v => ∃ b n c, G[j]? = some (.slice (some ⟨b, 0, none⟩) n c) ∧ v = .pointer (some ⟨b, i * sz + off, none⟩)
  | .clo f caps, v => ∃ bs : List Nat, all2 (fun j b => G[j]? = some (.pointer (some ⟨b, 0, none⟩))) caps bs ∧ v = .func (.func f) #[] (bs.map fun b => .pointer (some ⟨b, 0, none⟩)).toArray
  | .tup _, _ => False
  | .undef, v => v = Go.undef
  | .dead, _ => True
  | .cut e xs, v => ∃ p, (Ty.sl e).rd A w [.slice p xs.length xs.length] xs ∧ v = .slice p xs.length xs.length
  | .osl j sz lo n, v => ∃ g q c, G[j]? = some g ∧ v = .slice q n c ∧ n ≤ c ∧ c ≤ maxLen ∧ (0 < n → ∃ b N c', g = .slice (some ⟨b, 0, none⟩) N c' ∧ lo + n ≤ N ∧ q = some ⟨b, lo * sz, none⟩)
def Rel (G : List Value) (A : Nat → Prop) (w : World) : SV → Value → Prop
  | .tup l, v => ∃ vs : List Value, v = .tuple vs.toArray ∧ all2 (Rel1 G A w) l vs
  | s, v => Rel1 G A w s v

/-- Does a value speak of item j, so that it is stale once j turns? -/
def SV.of1 (j : Nat) : SV → Bool
  | .own i => Nat.beq i j
  | .oelt i _ _ _ => Nat.beq i j
  | .osl i _ _ _ => Nat.beq i j
  | _ => false
theorem Rel1.keep {G G' : List Value} {A A' : Nat → Prop} {w w' : World} (hk : Keeps A A' w w') {s : SV} {v : Value} (h : Rel1 G A w s v)
    (hG : ∀ j g, s.of1 j = true ∨ (∃ a, g = .pointer a) → G[j]? = some g → G'[j]? = some g) : Rel1 G' A' w' s v := by
  cases s with
  | d t x => obtain ⟨cs, h1, h2⟩ := h; exact ⟨cs, Ty.rd_keep hk h1, h2⟩
  | nil => exact h
  | box j off => obtain ⟨b, h1, h2⟩ := h; exact ⟨b, hG j _ (.inr ⟨_, rfl⟩) h1, h2⟩
  | elt e x off =>
    obtain ⟨b, o, cs, h1, h2, h3, h4, h5⟩ := h
    exact ⟨b, o, cs, h1, hk.sub b h3 h2, Nat.lt_of_lt_of_le h3 hk.size, Ty.rd_keep hk h4, hk.cells h3 h2 h5⟩
  | own j => exact hG j v (.inl (by simp [SV.of1])) h
  | oelt j sz i off => obtain ⟨b, n, c, h1, h2⟩ := h; exact ⟨b, n, c, hG j _ (.inl (by simp [SV.of1])) h1, h2⟩
  | clo f caps => obtain ⟨bs, h1, h2⟩ := h; exact ⟨bs, all2_mono (fun j b hjb => hG j _ (.inr ⟨_, rfl⟩) hjb) h1, h2⟩
  | tup l => exact h.elim
  | undef => exact h
  | dead => trivial
  | cut e xs => obtain ⟨p, h1, h2⟩ := h; exact ⟨p, Ty.rd_keep hk h1, h2⟩
  | osl j sz lo n => obtain ⟨g, q, c, h1, h2⟩ := h; exact ⟨g, q, c, hG j _ (.inl (by simp [SV.of1])) h1, h2⟩
end Go.Proofs.YtpiabmjipgfjjaaDoor

/- General lemmas on memory: a slice value that reads as a list of cells, kept while the world grows. -/
import Derived.Test.YtcaiedfkohigjaaGreatRows
import Derived.WalkKit
import Derived.WalkSpells
import Derived.WalkLawsBesides
import Derived.Handy
import Derived.Lib.Hide
import Derived.Deep.Draws
import Derived.OrdersHeld
namespace Go.Proofs.YtcaiedfkohigjaaGreat
open Go.RowKit

/-- The slice value v has n elements of 'size' cells each, and its cells are xs in w. -/
def Rd (w : World) (size : Nat) (v : Value) (n : Nat) (xs : List Value) : Prop :=
  xs.length = n * size ∧ ∃ A c, v = .slice A n c ∧ n ≤ c ∧ c ≤ maxLen ∧
    (0 < n → ∃ b off, A = some ⟨b, off, none⟩ ∧ b < w.heap.size ∧ ∀ j u, xs[j]? = some u → w.cell? ⟨b, off + j, none⟩ = some u)

section
variable {w w' : World} {size n : Nat} {v : Value} {xs : List Value}
theorem Rd.below (h : Rd w size v n xs) (hb : Below w.heap.size w w') : Rd w' size v n xs := by
  obtain ⟨hl, A, c, hv, h1, h2, h3⟩ := h
  refine ⟨hl, A, c, hv, h1, h2, fun hn => ?_⟩
  obtain ⟨b, off, hA, hlt, hc⟩ := h3 hn
  exact ⟨b, off, hA, Nat.lt_of_lt_of_le hlt hb.size, fun j u hu => (hb.cell (p := ⟨b, off + j, none⟩) hlt).trans (hc j u hu)⟩
theorem Rd.of_own {base : Nat} {e : TypeId} (_hsz : 0 < size) (h : w.ownsRow base e size v n xs) : Rd w size v n xs := by
  refine ⟨h.1, ?_⟩
  rcases h.2 with ⟨rfl, rfl⟩ | ⟨g, cap, cur, rfl, hg, hh, hn, hm, hs, ht⟩
  · exact ⟨none, 0, rfl, Nat.le_refl _, Nat.zero_le _, fun h => absurd h (by omega)⟩
  · refine ⟨_, cap, rfl, hn, hm, fun hn0 => ⟨g, 0, rfl, (Array.getElem?_eq_some_iff.1 hh).1, fun j u hu => ?_⟩⟩
    rw [Nat.zero_add, cell_of_row w g j cur e (0, 0) hh]
    rw [← ht, List.getElem?_take] at hu
    split at hu
    · rw [← Array.getElem?_toList]; exact hu
    · cases hu
theorem Rd.nil (w : World) (size : Nat) : Rd w size (.slice none 0 0) 0 [] := ⟨by simp, none, 0, rfl, Nat.le_refl _, Nat.zero_le _, fun h => absurd h (by omega)⟩
end

theorem below_drewN {B : Nat} {a w : World} (h : Below B a w) (n : Nat) : Below B a (w.drewN n) := ⟨h.os, h.tape, h.output, h.size, h.block⟩

/-- The cells of one new element are read off its own new block. -/
theorem news_one (w : World) (u : Value) (t : TypeId) : ∀ j x, [u][j]? = some x → (w.alloc (.cells #[u] t)).cell? (Addr.add ⟨w.heap.size, 0, none⟩ j) = some x := cell_one_new _ _ _

theorem own_append_below {w0 w w1 : World} {B : Nat} {e : TypeId} {size n : Nat} {v : Value} {xs : List Value} {o : Obj} (hb : Below B w0 w) (hB : B ≤ w.heap.size) (hown : w.ownsRow B e size v n xs)
    (hg : (w.alloc o).grownBy w1 v.ownBlock) : Below B w0 w1 :=
  (hb.alloc hB o).grown hg (by simp; omega) (fun k hk => (hown.lt k hk).1)

/-- What the tables say of a slice type t and its element type e. -/
def Elem (P : Program) (t e size bytes : Nat) : Prop :=
  P.underlying t = some (.slice e) ∧ 0 < size ∧ ∃ i z, P.info? e = some i ∧ i.zero = some z ∧ i.size = size ∧ i.bytes = bytes ∧ z.cells.size = size
theorem Elem.mk_ {P : Program} {t e size bytes : Nat} {z : Value} (ht : P.underlying t = some (.slice e)) (hs : 0 < size) (hi : (P.info? e).map (fun i => (i.zero, i.size, i.bytes)) = some (some z, size, bytes)) (hz : z.cells.size = size) : Elem P t e size bytes := by
  obtain ⟨i, h1, h2, h3, h4⟩ := info_parts hi
  exact ⟨ht, hs, i, z, h1, h2, h3, h4, hz⟩

/-- 'append(out, x, ..)' where out is the call's own: the new elements lie in the block that was just made. -/
theorem append_new {P : Program} {ops : Array Oper} {rest : List Oper} {o : Oper} {a : Act} {Q : Exit → Act → World → Prop} {w0 wB : World} {base t e size bytes n m : Nat} {v : Value} {xs cs : List Value} {s x : Operand}
    (hE : Elem P t e size bytes) (hown : w0.ownsRow base e size v n xs) (hb : Below base wB w0) (hbase : base ≤ w0.heap.size) (hl : cs.length = m * size) (h1 : ∀ u ∈ cs, u.oneCell' = true)
    (h63 : n + m ≤ maxLen) (hbytes : (n + m) * bytes ≤ 140737488355328) (hgd : o.guard = none) (ho : o.op = .call { callee := .builtin .append, args := #[s, x], argTypes := #[t, t] })
    (hs : a.eval s = v) (hx : a.eval x = .slice (some ⟨w0.heap.size, 0, none⟩) m m)
    (h : ∀ v' w', w'.ownsRow base e size v' (n + m) (xs ++ cs) → Below base wB w' → wpList P ops Q rest (a.put o.dst v') w') : wpList P ops Q (o :: rest) a (w0.alloc (.cells cs.toArray e)) := by
  obtain ⟨ht, hsz, i, z, hi, hz, h3, h4, h5⟩ := hE
  refine wpList_append_own _ hgd s x t ho base e i z size bytes ht hi hz h3 h4 h5 hsz v n xs hs (hown.alloc _) ⟨w0.heap.size, 0, none⟩ m m cs hx hl ?_ h1 h63 hbytes (by simp; omega) ?_
  · intro j u hu
    have : (Addr.add ⟨w0.heap.size, 0, none⟩ j) = ⟨w0.heap.size, j, none⟩ := by unfold Addr.add; split <;> simp_all
    rw [this, World.cell?_alloc_at _ _ _ _ rfl]
    simpa using hu
  · intro v' w' h2 h3 _
    exact h v' w' h2 ((hb.alloc hbase _).grown h3 (by simp; omega) (fun k hk => (hown.lt k hk).1))

/-- Block g of w is just the cells cs (of element type t), none of them frozen. -/
def Blk (w : World) (g : Nat) (t : TypeId) (cs : Array Value) : Prop := w.heap[g]? = some (.cells cs t (0, 0))
section
variable {w w' : World} {g : Nat} {t : TypeId} {cs : Array Value}
theorem Blk.lt (h : Blk w g t cs) : g < w.heap.size := (Array.getElem?_eq_some_iff.1 h).1
theorem Blk.cell (h : Blk w g t cs) (i : Nat) {v : Value} (hv : cs[i]? = some v) : w.cell? ⟨g, i, none⟩ = some v := (cell_of_row w g i cs t (0, 0) h).trans hv
theorem Blk.free (h : Blk w g t cs) (i : Nat) : w.frozen? ⟨g, i, none⟩ = false := by
  unfold Blk at h
  simp [World.frozen?, h]
theorem Blk.new (w : World) (t : TypeId) (cs : Array Value) : Blk (w.alloc (.cells cs t)) w.heap.size t cs := heap_alloc_new w _
theorem Blk.alloc (h : Blk w g t cs) (o : Obj) : Blk (w.alloc o) g t cs := (Below.heap_alloc w o g h.lt).trans h
theorem Blk.below {B : Nat} (h : Blk w g t cs) (hb : Below B w w') (hg : g < B) : Blk w' g t cs := (hb.block g hg).trans h
theorem Blk.drewN (h : Blk w g t cs) (n : Nat) : Blk (w.drewN n) g t cs := h
theorem Blk.grown {row : Option Nat} (h : Blk w g t cs) (hb : w.grownBy w' row) (hg : some g ≠ row) : Blk w' g t cs := (hb.block g h.lt hg).trans h
theorem Blk.set (h : Blk w g t cs) (i : Nat) (u : Value) : Blk (w.setCell ⟨g, i, none⟩ u) g t (cs.setIfInBounds i u) := by
  unfold Blk at h ⊢
  simp [World.setCell, Array.getElem?_modify, h]
theorem Blk.far (h : Blk w g t cs) {p : Addr} (hp : g ≠ p.block) (u : Value) : Blk (w.setCell p u) g t cs := (Below.heap_setCell w p u g hp).trans h
end
/-- Behind a call: what a function's two boxes hold, and that nothing older has turned. -/
theorem boxes1 {w w1 : World} {t1 : TypeId} {c1 : Array Value} (hb : Below (w.heap.size + 1) (w.alloc (.cells c1 t1)) w1) : Blk w1 w.heap.size t1 c1 ∧ w.heap.size + 1 ≤ w1.heap.size ∧ Below w.heap.size w w1 := by
  have h1 : Blk (w.alloc (.cells c1 t1)) w.heap.size t1 c1 := Blk.new _ _ _
  refine ⟨h1.below hb (by omega), by have := hb.size; simp at this; omega, ?_⟩
  exact ((Below.refl _ _).alloc (Nat.le_refl _) _).trans (hb.mono (by omega))
theorem boxes2 {w w1 : World} {t1 t2 : TypeId} {c1 c2 : Array Value} (hb : Below (w.heap.size + 1 + 1) ((w.alloc (.cells c1 t1)).alloc (.cells c2 t2)) w1) :
    Blk w1 w.heap.size t1 c1 ∧ Blk w1 (w.heap.size + 1) t2 c2 ∧ w.heap.size + 2 ≤ w1.heap.size ∧ Below w.heap.size w w1 := by
  have h1 : Blk ((w.alloc (.cells c1 t1)).alloc (.cells c2 t2)) w.heap.size t1 c1 := (Blk.new _ _ _).alloc _
  have h2 : Blk ((w.alloc (.cells c1 t1)).alloc (.cells c2 t2)) (w.heap.size + 1) t2 c2 := by have := Blk.new (w.alloc (.cells c1 t1)) t2 c2; simpa using this
  refine ⟨h1.below hb (by omega), h2.below hb (by omega), by have := hb.size; simp at this; omega, ?_⟩
  exact (((Below.refl _ _).alloc (Nat.le_refl _) _).alloc (by simp) _).trans (hb.mono (by omega))

theorem ret_int {k : IntKind} {a b : Int} (h : a = b) : Ending.returned (.int k a) = .returned (.int k b) := by rw [h]
end Go.Proofs.YtcaiedfkohigjaaGreat
/- More on blocks behind a call. -/
namespace Go.Proofs.YtcaiedfkohigjaaGreat
open Go.RowKit
theorem box1 {w w1 : World} {t1 : TypeId} {c1 : Array Value} (hb : Below (w.alloc (.cells c1 t1)).heap.size (w.alloc (.cells c1 t1)) w1) : Blk w1 w.heap.size t1 c1 ∧ w.heap.size + 1 ≤ w1.heap.size ∧ Below w.heap.size w w1 :=
  boxes1 (by simpa using hb)
theorem box2 {w w1 : World} {t1 t2 : TypeId} {c1 c2 : Array Value} (hb : Below ((w.alloc (.cells c1 t1)).alloc (.cells c2 t2)).heap.size ((w.alloc (.cells c1 t1)).alloc (.cells c2 t2)) w1) :
    Blk w1 w.heap.size t1 c1 ∧ Blk w1 (w.heap.size + 1) t2 c2 ∧ w.heap.size + 2 ≤ w1.heap.size ∧ Below w.heap.size w w1 :=
  boxes2 (by simpa using hb)
/-- A later world: 'w2' has all blocks of 'w1' as they were. -/
theorem later {w w1 w2 : World} (h1 : Below w.heap.size w w1) (h2 : Below w1.heap.size w1 w2) : Below w.heap.size w w2 := h1.trans (h2.mono h1.size)

/-- 'append(out, x, ..)' inside a region that draws its order. -/
theorem step_append_new {P : Program} {ops : Array Oper} {o : Oper} {a : Act} {K : Act → World → Prop} {Q : Exit → Act → World → Prop} {E : Prop} {w0 wB : World} {base t e size bytes n m : Nat} {v : Value} {xs cs : List Value} {s x : Operand}
    (hE : Elem P t e size bytes) (hown : w0.ownsRow base e size v n xs) (hb : Below base wB w0) (hbase : base ≤ w0.heap.size) (hl : cs.length = m * size) (h1 : ∀ u ∈ cs, u.oneCell' = true)
    (h63 : n + m ≤ maxLen) (hbytes : (n + m) * bytes ≤ 140737488355328) (hgd : o.guard = none) (ho : o.op = .call { callee := .builtin .append, args := #[s, x], argTypes := #[t, t] })
    (hs : a.eval s = v) (hx : a.eval x = .slice (some ⟨w0.heap.size, 0, none⟩) m m)
    (h : ∀ v' w', w'.ownsRow base e size v' (n + m) (xs ++ cs) → Below base wB w' → K (a.put o.dst v') w') :
    if Region.wanted o (yielded ops a.tmps) = true then Oper.wp P o a (w0.alloc (.cells cs.toArray e)) K Q else E := by
  have hw : Region.wanted o (yielded ops a.tmps) = true := by simp [Region.wanted, hgd]
  rw [if_pos hw]
  obtain ⟨ht, hsz, i, z, hi, hz, h3, h4, h5⟩ := hE
  refine wp_append_own _ s x t ho base e i z size bytes ht hi hz h3 h4 h5 hsz v n xs hs (hown.alloc _) ⟨w0.heap.size, 0, none⟩ m m cs hx hl ?_ h1 h63 hbytes (by simp; omega) ?_
  · intro j u hu
    have : (Addr.add ⟨w0.heap.size, 0, none⟩ j) = ⟨w0.heap.size, j, none⟩ := by unfold Addr.add; split <;> simp_all
    rw [this, World.cell?_alloc_at _ _ _ _ rfl]
    simpa using hu
  · intro v' w' h2 h3 _
    exact h v' w' h2 ((hb.alloc hbase _).grown h3 (by simp; omega) (fun k hk => (hown.lt k hk).1))
/-- A slice literal's block is the call's own row. -/
theorem own_lit {w : World} {base e size m : Nat} {cs : List Value} (hb : base ≤ w.heap.size) (hl : cs.length = m * size) (hm : m ≤ maxLen) : (w.alloc (.cells cs.toArray e)).ownsRow base e size (.slice (some ⟨w.heap.size, 0, none⟩) m m) m cs :=
  ⟨hl, .inr ⟨w.heap.size, m, cs.toArray, rfl, hb, heap_alloc_new w _, Nat.le_refl _, hm, by simpa using hl, by simp [← hl]⟩⟩
theorem own_far {w w' : World} {base e size n : Nat} {v : Value} {xs : List Value} (h : w.ownsRow base e size v n xs) (hb : Below w.heap.size w w') : w'.ownsRow base e size v n xs := by
  refine ⟨h.1, ?_⟩
  rcases h.2 with h2 | ⟨g, cap, cur, hv, hg, hh, r⟩
  · exact .inl h2
  · exact .inr ⟨g, cap, cur, hv, hg, (hb.block g (Array.getElem?_eq_some_iff.1 hh).1).trans hh, r⟩

theorem below_of_drew {w w' : World} (h : Below w.drew.heap.size w.drew w') : Below w.heap.size w w' := ⟨h.os, h.tape, h.output, h.size, h.block⟩
end Go.Proofs.YtcaiedfkohigjaaGreat
/- A small engine: the frame is a variable of which some slots are known; regions are run by the kernel over those slots. -/
namespace Go.Proofs.YtcaiedfkohigjaaGreat
open Go.RowKit

/-! Known slots. -/
abbrev Sl := List (Nat × Value)
def look : Sl → Nat → Option Value
  | [], _ => none
  | (k, x) :: r, t => match Nat.beq k t with
    | true => some x
    | false => look r t

structure St (n : Nat) (L : Sl) (a : Act) : Prop where
  defers : a.defers = []
  size : a.tmps.size = n
  slot : ∀ t v, look L t = some v → a.tmps[t]? = some v

def putL (n : Nat) (L : Sl) : Option Nat → Value → Option Sl
  | none, _ => some L
  | some d, v => match Nat.ble (d + 1) n with
    | true => some ((d, v) :: L)
    | false => none

theorem St.put {n : Nat} {L L' : Sl} {a : Act} {d : Option Nat} {v : Value} (h : St n L a) (hp : putL n L d v = some L') : St n L' (a.put d v) := by
  cases d with
  | none => simp [putL] at hp; subst hp; exact h
  | some d =>
    simp only [putL] at hp
    split at hp
    · rename_i hd
      have hd' : d < n := by have := Nat.le_of_ble_eq_true hd; omega
      injection hp with hp
      subst hp
      refine ⟨h.defers, by simp [Act.put, h.size], fun t u hu => ?_⟩
      simp only [look] at hu
      simp only [Act.put, Array.getElem?_setIfInBounds, h.size]
      split at hu
      · rename_i he
        have : d = t := Nat.eq_of_beq_eq_true he
        subst this
        simpa [hd'] using hu
      · rename_i he
        have : d ≠ t := fun e => by subst e; simp at he
        rw [if_neg this]
        exact h.slot t u hu
    · cases hp

def envOf (L : Sl) : Operand → Value
  | .tmp t => (look L t).getD undef
  | .const v => v
  | .global g => .pointer (some ⟨g, 0, none⟩)
  | .func f => .func (.func f) #[] #[]
def known (L : Sl) : Operand → Bool
  | .tmp t => (look L t).isSome
  | _ => true
def opsOk (L : Sl) (o : Op) : Bool := o.operands.toList.all (known L) && (match o with | .select _ _ => false | _ => true)

theorem St.eval {n : Nat} {L : Sl} {a : Act} (h : St n L a) (x : Operand) (hx : known L x = true) : a.eval x = envOf L x := by
  cases x with
  | tmp t =>
    simp only [known, Option.isSome_iff_exists] at hx
    obtain ⟨v, hv⟩ := hx
    have := h.slot t v hv
    simp [Act.eval, envOf, hv, Array.getD_eq_getD_getElem?, this]
  | _ => rfl
theorem St.exec {n : Nat} {L : Sl} {a : Act} (h : St n L a) (o : Oper) (ho : opsOk L o.op = true) : execOp a.eval o = execOp (envOf L) o := by
  simp only [opsOk, Bool.and_eq_true] at ho
  refine execOp_congr o (fun cs b e => ?_) (fun x hx => h.eval x ?_)
  · rw [e] at ho; simp at ho
  · exact List.all_eq_true.1 ho.1 x (by simpa using hx)

/-! Guards. -/
def wantedL (ops : Array Oper) (L : Sl) (o : Oper) : Option Bool :=
  match o.guard with
  | none => some true
  | some (j, want) =>
    match (ops[j]?).bind (·.dst) with
    | some d => match look L d with
      | some (.bool b) => some (b == want)
      | some (.tuple _) => some false
      | _ => none
    | none => none
theorem St.wanted {n : Nat} {L : Sl} {a : Act} {ops : Array Oper} {o : Oper} {b : Bool} (h : St n L a) (hw : wantedL ops L o = some b) : Region.wanted o (yielded ops a.tmps) = b := by
  unfold wantedL at hw
  unfold Region.wanted
  cases hg : o.guard with
  | none => simp [hg] at hw; simpa using hw
  | some gw =>
    obtain ⟨j, want⟩ := gw
    simp only [hg] at hw
    cases hd : (ops[j]?).bind (·.dst) with
    | none => simp [hd] at hw
    | some d =>
      simp only [hd] at hw
      cases hl : look L d with
      | none => simp [hl] at hw
      | some v =>
        simp only [hl] at hw
        have hs := h.slot d v hl
        cases v <;> simp at hw
        · subst hw
          simp only [yielded, hd, Option.bind_some, hs]
          rename_i b
          cases b <;> cases want <;> rfl
        · subst hw
          simp only [yielded, hd, Option.bind_some, hs]
          rfl

/-! An operation's run, by the kernel. -/
abbrev Obl := List (World → Prop)
def conj : Obl → World → Prop
  | [], _ => True
  | p :: r, w => p w ∧ conj r w
theorem conj_append {w : World} : ∀ {l m : Obl}, conj (l ++ m) w → conj l w ∧ conj m w
  | [], _, h => ⟨trivial, h⟩
  | _ :: _, _, h => ⟨⟨h.1, (conj_append h.2).1⟩, (conj_append h.2).2⟩

def evT (P : Program) : Sem Next → List Value → Option (Next × Obl)
  | .pure n, [] => some (n, [])
  | .program k, H => evT P (k P) H
  | .load .plain a k, v :: H => match evT P (k v) H with
    | some (n, O) => some (n, (fun w => w.cell? a = some v) :: O)
    | none => none
  | _, _ => none
theorem evT_run {P : Program} {w : World} : ∀ (t : Sem Next) (H : List Value) (n : Next) (O : Obl), evT P t H = some (n, O) → conj O w → t.run P w = .ok n w := by
  intro t
  induction t with
  | pure m =>
    intro H n O h _
    cases H with
    | nil => simp [evT] at h; rw [h.1]; rfl
    | cons => simp [evT] at h
  | program k ih =>
    intro H n O h hO
    simp only [evT] at h
    exact ih P H n O h hO
  | load m a k ih =>
    intro H n O h hO
    cases m with
    | atomic => cases H <;> simp [evT] at h
    | plain =>
      cases H with
      | nil => simp [evT] at h
      | cons v H =>
        simp only [evT] at h
        cases hr : evT P (k v) H with
        | none => simp [hr] at h
        | some r =>
          obtain ⟨n', O'⟩ := r
          simp only [hr, Option.some.injEq, Prod.mk.injEq] at h
          obtain ⟨rfl, rfl⟩ := h
          simp only [Sem.run, hO.1]
          exact ih v H _ _ hr hO.2
  | _ => intro H n O h; cases H <;> simp [evT] at h

/-- '==' on structs of integers and bools. -/
def partV (P : Program) (t : TypeId) (cs : Array Value) (off : Nat) : Option Value :=
  match P.underlying t, P.info? t with
  | some (.struct _), some i => some (.agg (cs.extract off (off + i.size)))
  | some (.int _), _ => cs[off]?
  | some .bool, _ => cs[off]?
  | _, _ => none
def eqFs (rc : TypeId → Value → Value → Option Bool) (P : Program) (xs ys : Array Value) : List Field → Option Bool
  | [] => some true
  | f :: fs => if f.name ≠ "_" then
      match partV P f.type xs f.offset, partV P f.type ys f.offset with
      | some a, some b => match rc f.type a b, eqFs rc P xs ys fs with
        | some r, some r' => some (r && r')
        | _, _ => none
      | _, _ => none
    else none
def eqV (P : Program) : Nat → TypeId → Value → Value → Option Bool
  | 0, _, _, _ => none
  | d + 1, t, x, y => match P.underlying t, x, y with
    | some (.int _), .int .i64 a, .int .i64 b => some (a == b)
    | some (.int _), .int .u32 a, .int .u32 b => some (a == b)
    | some .bool, .bool a, .bool b => some (a == b)
    | some (.struct fs), .agg xs, .agg ys => match P.stoodInHeld t with
      | false => eqFs (eqV P d) P xs ys fs.toList
      | true => none
    | _, _, _ => none
theorem partV_run {P : Program} {t : TypeId} {cs : Array Value} {off : Nat} {v : Value} (w : World) (h : partV P t cs off = some v) : (part t cs off).run P w = .ok v w := by
  unfold partV at h
  split at h
  · rename_i fs i hu hi
    injection h with h
    subst h
    simp [part, isAgg, run_underlying hu, sizeOf, typeInfo, hi]
  · rename_i hu
    simp [part, isAgg, run_underlying hu, h]
  · rename_i hu
    simp [part, isAgg, run_underlying hu, h]
  · cases h
theorem eqFs_run {P : Program} {rc : TypeId → Value → Value → Option Bool} {d : Nat} (hrc : ∀ t x y r (w : World), rc t x y = some r → (Op.equalIn d t x y).run P w = .ok r w) (w : World) (xs ys : Array Value) : ∀ (fs : List Field) (r : Bool), eqFs rc P xs ys fs = some r → (Op.eqFields d xs ys fs).run P w = .ok r w
  | [], r, h => by simp [eqFs] at h; subst h; rfl
  | f :: fs, r, h => by
    simp only [eqFs] at h
    split at h
    · rename_i hn
      split at h
      · rename_i a b ha hb
        split at h
        · rename_i r1 r2 h1 h2
          injection h with h
          subst h
          have ih := eqFs_run hrc w xs ys fs r2 h2
          simp only [Op.eqFields, if_pos hn, Sem.run_bind, partV_run w ha, partV_run w hb, hrc _ _ _ _ w h1, Result.andThen_ok]
          cases r1
          · simp
          · simpa using ih
        · cases h
      · cases h
    · cases h
theorem eqV_run {P : Program} : ∀ (d : Nat) (t : TypeId) (x y : Value) (r : Bool) (w : World), eqV P d t x y = some r → (Op.equalIn d t x y).run P w = .ok r w
  | 0, _, _, _, _, _, h => by simp [eqV] at h
  | d + 1, t, x, y, r, w, h => by
    simp only [eqV] at h
    split at h
    · rename_i hu
      injection h with h; subst h
      exact run_equalIn_int w d t _ _ _ _ hu
    · rename_i hu
      injection h with h; subst h
      exact run_equalIn_int w d t _ _ _ _ hu
    · rename_i hu
      injection h with h; subst h
      exact run_equalIn_bool' w d t _ _ hu
    · rename_i fs xs ys hu
      split at h
      · rename_i hst
        have hf : P.fieldsOf t = fs := by simp [Program.fieldsOf, hu]
        rw [run_equalIn_struct w d t xs ys (by rw [hf]; exact hu) hst, hf]
        exact eqFs_run (fun t x y r w h => eqV_run d t x y r w h) w xs ys fs.toList r h
      · cases h
    · cases h

/-- Operations whose way hangs on a number: an index, a division. -/
def special (P : Program) (L : Sl) : Op → Option (Value × Obl)
  | .indexAddr t x ix => match P.underlying t, envOf L x, envOf L ix with
    | some (.slice e), .slice (some ⟨b, off, none⟩) len _, .int _ i => match P.info? e with
      | some inf => some (.pointer (some ⟨b, off + i.toNat * inf.size, none⟩), [fun _ => 0 ≤ i ∧ i < (len : Int)])
      | none => none
    | some (.array len e), .pointer (some ⟨b, off, none⟩), .int _ i => match P.info? e with
      | some inf => some (.pointer (some ⟨b, off + i.toNat * inf.size, none⟩), [fun _ => 0 ≤ i ∧ i < (len : Int)])
      | none => none
    | _, _, _ => none
  | .binOp .quo _ x y _ => match envOf L x, envOf L y with
    | .int .i64 a, .int .i64 b => some (.int .i64 (IntKind.i64.wrap (a.tdiv b)), [fun _ => b ≠ 0])
    | .int .u64 a, .int .u64 b => some (.int .u64 (IntKind.u64.wrap (a.tdiv b)), [fun _ => b ≠ 0])
    | .int .u32 a, .int .u32 b => some (.int .u32 (IntKind.u32.wrap (a.tdiv b)), [fun _ => b ≠ 0])
    | _, _ => none
  | .binOp .rem _ x y _ => match envOf L x, envOf L y with
    | .int .i64 a, .int .i64 b => some (.int .i64 (a.tmod b), [fun _ => b ≠ 0])
    | .int .u64 a, .int .u64 b => some (.int .u64 (a.tmod b), [fun _ => b ≠ 0])
    | .int .u32 a, .int .u32 b => some (.int .u32 (a.tmod b), [fun _ => b ≠ 0])
    | _, _ => none
  | .binOp .eql t x y _ => match envOf L x, envOf L y, P.eqGuardType P.depth t with
    | .agg xs, .agg ys, false => match eqV P 10000 t (.agg xs) (.agg ys) with
      | some r => some (.bool r, [])
      | none => none
    | _, _, _ => none
  | .binOp .neq t x y _ => match envOf L x, envOf L y, P.eqGuardType P.depth t with
    | .agg xs, .agg ys, false => match eqV P 10000 t (.agg xs) (.agg ys) with
      | some r => some (.bool (!r), [])
      | none => none
    | _, _, _ => none
  | _ => none

theorem add_plain (b off n : Nat) : Addr.add ⟨b, off, none⟩ n = ⟨b, off + n, none⟩ := by unfold Addr.add; split <;> simp_all

theorem special_run {P : Program} {L : Sl} {o : Oper} {v : Value} {O : Obl} (w : World) (h : special P L o.op = some (v, O)) (hO : conj O w) : (execOp (envOf L) o).run P w = .ok (.value v) w := by
  obtain ⟨dst, op, type, pos, after, guard⟩ := o
  cases op <;> simp only [special] at h <;> try (cases h; done)
  case indexAddr t x ix =>
    split at h <;> try (cases h; done)
    · rename_i e b off len cap kk i hu hx hi
      split at h <;> try (cases h; done)
      rename_i inf hinf
      simp only [Option.some.injEq, Prod.mk.injEq] at h
      obtain ⟨rfl, rfl⟩ := h
      obtain ⟨⟨h0, h1⟩, _⟩ := hO
      simp [execOp, hx, hi, Instr.indexAt, asIntOf, run_underlying hu, sizeOf, typeInfo, hinf, h0, h1, add_plain]
    · rename_i len e b off kk i hu hx hi
      split at h <;> try (cases h; done)
      rename_i inf hinf
      simp only [Option.some.injEq, Prod.mk.injEq] at h
      obtain ⟨rfl, rfl⟩ := h
      obtain ⟨⟨h0, h1⟩, _⟩ := hO
      simp [execOp, hx, hi, Instr.indexAt, asIntOf, run_underlying hu, sizeOf, typeInfo, hinf, h0, h1, add_plain, Instr.sureAddr]
  case binOp bo xt x y yt =>
    cases bo <;> simp only at h <;> try (cases h; done)
    case eql =>
      split at h <;> try (cases h; done)
      rename_i xs ys hx hy hg
      split at h <;> try (cases h; done)
      rename_i r hr
      simp only [Option.some.injEq, Prod.mk.injEq] at h
      obtain ⟨rfl, rfl⟩ := h
      simp only [execOp, hx, hy, Sem.run_bind, run_eqGuard_agg w .eql xt x y xs ys hg, Result.andThen_ok, run_eql_struct, eqV_run _ _ _ _ _ w hr, Sem.run_pure]
    case neq =>
      split at h <;> try (cases h; done)
      rename_i xs ys hx hy hg
      split at h <;> try (cases h; done)
      rename_i r hr
      simp only [Option.some.injEq, Prod.mk.injEq] at h
      obtain ⟨rfl, rfl⟩ := h
      simp only [execOp, hx, hy, Sem.run_bind, run_eqGuard_agg w .neq xt x y xs ys hg, Result.andThen_ok, run_neq_struct, eqV_run _ _ _ _ _ w hr, Sem.run_pure]
    all_goals
      split at h <;> try (cases h; done)
      all_goals
        rename_i hx hy
        simp only [Option.some.injEq, Prod.mk.injEq] at h
        obtain ⟨rfl, rfl⟩ := h
        have hb := hO.1
        simp [execOp, hx, hy, eqGuard, binOp, Op.intDiv, hb]
end Go.Proofs.YtcaiedfkohigjaaGreat
/- The engine: stretches of operations; new blocks; stores; calls. -/
namespace Go.Proofs.YtcaiedfkohigjaaGreat
open Go.RowKit

abbrev Hints := List (Nat × Option Value × List Value)
def hint : Hints → Nat → Option Value × List Value
  | [], _ => (none, [])
  | (k, x) :: r, t => match Nat.beq k t with
    | true => x
    | false => hint r t

def evO (P : Program) (L : Sl) (o : Oper) (H : List Value) : Option (Value × Obl) :=
  match special P L o.op with
  | some r => some r
  | none => match evT P (execOp (envOf L) o) H with
    | some (.value v, O) => some (v, O)
    | _ => none
theorem evO_run {P : Program} {w : World} {L : Sl} {o : Oper} {H : List Value} {v : Value} {O : Obl} (h : evO P L o H = some (v, O)) (hO : conj O w) : (execOp (envOf L) o).run P w = .ok (.value v) w := by
  unfold evO at h
  split at h
  · rename_i r hr
    injection h with h
    subst h
    exact special_run w hr hO
  · split at h
    · rename_i hr
      simp only [Option.some.injEq, Prod.mk.injEq] at h
      obtain ⟨rfl, rfl⟩ := h
      exact evT_run _ _ _ _ hr hO
    · cases h

def stp (P : Program) (ops : Array Oper) (n : Nat) (L : Sl) (o : Oper) (h : Option Value × List Value) : Option (Sl × Obl) :=
  match wantedL ops L o with
  | some false => match putL n L o.dst undef with
    | some L' => some (L', [])
    | none => none
  | some true => match opsOk L o.op with
    | true => match evO P L o h.2 with
      | some (v, O) => match h.1 with
        | none => match putL n L o.dst v with
          | some L' => some (L', O)
          | none => none
        | some v' => match putL n L o.dst v' with
          | some L' => some (L', (fun _ => v = v') :: O)
          | none => none
      | none => none
    | false => none
  | none => none

/-- What a step of the engine says of the machine's: the value, and the frame behind it. -/
theorem stp_run {P : Program} {w : World} {ops : Array Oper} {n : Nat} {L L' : Sl} {o : Oper} {h : Option Value × List Value} {O : Obl} {a : Act} (hs : St n L a) (he : stp P ops n L o h = some (L', O)) (hO : conj O w) :
    ∃ v, St n L' (a.put o.dst v) ∧ ((Region.wanted o (yielded ops a.tmps) = true ∧ (execOp a.eval o).run P w = .ok (.value v) w) ∨ (Region.wanted o (yielded ops a.tmps) = false ∧ v = undef)) := by
  unfold stp at he
  split at he
  · rename_i hw
    split at he
    · rename_i L1 hp
      simp only [Option.some.injEq, Prod.mk.injEq] at he
      obtain ⟨rfl, rfl⟩ := he
      exact ⟨undef, hs.put hp, .inr ⟨hs.wanted hw, rfl⟩⟩
    · cases he
  · rename_i hw
    split at he
    · rename_i hok
      split at he
      · rename_i v O1 hev
        split at he
        · split at he
          · rename_i L1 hp
            simp only [Option.some.injEq, Prod.mk.injEq] at he
            obtain ⟨rfl, rfl⟩ := he
            exact ⟨v, hs.put hp, .inl ⟨hs.wanted hw, by rw [hs.exec o hok]; exact evO_run hev hO⟩⟩
          · cases he
        · split at he
          · rename_i v' _ L1 hp
            simp only [Option.some.injEq, Prod.mk.injEq] at he
            obtain ⟨rfl, rfl⟩ := he
            obtain ⟨rfl, hO'⟩ := hO
            exact ⟨v, hs.put hp, .inl ⟨hs.wanted hw, by rw [hs.exec o hok]; exact evO_run hev hO'⟩⟩
          · cases he
      · cases he
    · cases he
  · cases he

theorem stp_wp {P : Program} {w : World} {ops : Array Oper} {n : Nat} {L L' : Sl} {o : Oper} {h : Option Value × List Value} {O : Obl} {a : Act} {rest : List Oper} {Q : Exit → Act → World → Prop} (hs : St n L a) (he : stp P ops n L o h = some (L', O)) (hO : conj O w)
    (hk : ∀ a', St n L' a' → wpList P ops Q rest a' w) : wpList P ops Q (o :: rest) a w := by
  obtain ⟨v, hv, ⟨hw, hr⟩ | ⟨hw, rfl⟩⟩ := stp_run hs he hO
  · unfold wpList
    rw [if_pos hw]
    refine .inl ?_
    unfold Oper.wp
    rw [hr]
    exact hk _ hv
  · unfold wpList
    rw [if_neg (by rw [hw]; simp)]
    exact hk _ hv

def segL (P : Program) (ops : Array Oper) (n : Nat) (H : Hints) : Nat → List Oper → Sl → Option (Sl × Obl)
  | _, [], L => some (L, [])
  | k, o :: os, L => match stp P ops n L o (hint H k) with
    | some (L', O) => match segL P ops n H (k + 1) os L' with
      | some (L'', O') => some (L'', O ++ O')
      | none => none
    | none => none
theorem segL_wp {P : Program} {w : World} {ops : Array Oper} {n : Nat} {H : Hints} {Q : Exit → Act → World → Prop} {rest : List Oper} : ∀ (os : List Oper) (k : Nat) (L L' : Sl) (O : Obl) (a : Act), segL P ops n H k os L = some (L', O) → conj O w → St n L a →
    (∀ a', St n L' a' → wpList P ops Q rest a' w) → wpList P ops Q (os ++ rest) a w := by
  intro os
  induction os with
  | nil =>
    intro k L L' O a h _ hs hk
    simp only [segL, Option.some.injEq, Prod.mk.injEq] at h
    obtain ⟨rfl, rfl⟩ := h
    exact hk a hs
  | cons o os ih =>
    intro k L L' O a h hO hs hk
    simp only [segL] at h
    split at h
    · rename_i L1 O1 h1
      split at h
      · rename_i L2 O2 h2
        simp only [Option.some.injEq, Prod.mk.injEq] at h
        obtain ⟨rfl, rfl⟩ := h
        obtain ⟨hO1, hO2⟩ := conj_append hO
        exact stp_wp hs h1 hO1 fun a' ha' => ih (k + 1) L1 L2 O2 a' h2 hO2 ha' hk
      · cases h
    · cases h

def pickL (L : Sl) : List Nat → Option Sl
  | [] => some []
  | t :: ts => match look L t with
    | some v => match pickL L ts with
      | some r => some ((t, v) :: r)
      | none => none
    | none => none
theorem pickL_look {L : Sl} : ∀ {ts : List Nat} {L' : Sl}, pickL L ts = some L' → ∀ t v, look L' t = some v → look L t = some v := by
  intro ts
  induction ts with
  | nil => intro L' h t v hv; simp [pickL] at h; subst h; simp [look] at hv
  | cons s ts ih =>
    intro L' h t v hv
    simp only [pickL] at h
    split at h
    · rename_i u hu
      split at h
      · rename_i r hr
        injection h with h
        subst h
        simp only [look] at hv
        split at hv
        · rename_i he
          have : s = t := Nat.eq_of_beq_eq_true he
          subst this
          injection hv with hv
          subst hv
          exact hu
        · exact ih hr t v hv
      · cases h
    · cases h
theorem St.pick {n : Nat} {L L' : Sl} {a : Act} {ts : List Nat} (h : St n L a) (hp : pickL L ts = some L') : St n L' a := ⟨h.defers, h.size, fun t v hv => h.slot t v (pickL_look hp t v hv)⟩

/-- A stretch of a region: operations k .. k + m - 1; the slots 'ts' are kept. -/
def seg (P : Program) (ops : Array Oper) (n k m : Nat) (L : Sl) (H : Hints) (ts : List Nat) : Option (Sl × (World → Prop)) :=
  match segL P ops n H k ((ops.toList.drop k).take m) L with
  | some (L', O) => match pickL L' ts with
    | some L2 => some (L2, conj O)
    | none => none
  | none => none

/-! The places of a function's code. -/
def Code.size : Code → Nat
  | .seq a b => size a + size b + 1
  | .cond _ a b => size a + size b + 1
  | .block _ c => size c + 1
  | .loop c => size c + 1
  | .scope c => size c + 1
  | _ => 1
/-- The i-th node, the text's order. -/
def nth : Code → Nat → Code
  | c, 0 => c
  | .seq a b, i + 1 => match Nat.ble (i + 1) (Code.size a) with
    | true => nth a i
    | false => nth b (i - Code.size a)
  | .cond _ a b, i + 1 => match Nat.ble (i + 1) (Code.size a) with
    | true => nth a i
    | false => nth b (i - Code.size a)
  | .block _ c, i + 1 => nth c i
  | .loop c, i + 1 => nth c i
  | .scope c, i + 1 => nth c i
  | _, _ => .skip

inductive KI where
  | seq (i : Nat)
  | blk (id : Nat)
  | lp (J : Act → World → Prop)

/-- What is asked of an ending of the piece at hand. -/
def cont (P : Program) (fn : Func) (R : Ending → World → Prop) (B : Code) : List KI → Exit → Act → World → Prop
  | [] => bodyPost P fn R
  | .seq i :: K => Exit.then ((nth B i).wp P (cont P fn R B K)) (cont P fn R B K)
  | .blk id :: K => Exit.inBlock id (cont P fn R B K)
  | .lp J :: K => Exit.then J (cont P fn R B K)

/-- Node i is to be run. -/
def At (P : Program) (fn : Func) (R : Ending → World → Prop) (B : Code) (K : List KI) (i : Nat) (a : Act) (w : World) : Prop := (nth B i).wp P (cont P fn R B K) a w
def opsAt : Code → Array Oper
  | .region _ ops _ => ops
  | _ => #[]
/-- Operation k of region i is to be run. -/
def AtR (P : Program) (fn : Func) (R : Ending → World → Prop) (B : Code) (K : List KI) (i k : Nat) (a : Act) (w : World) : Prop :=
  wpList P (opsAt (nth B i)) (cont P fn R B K) ((opsAt (nth B i)).toList.drop k) a w

/-- Where an ending leads: to a node, to the loop's head, to the function's end. -/
inductive Way where
  | node (i : Nat) (K : List KI)
  | back
  | ret
  | lost
def wayE (id : Nat) : List KI → Option (List KI)
  | [] => none
  | .blk j :: K => match Nat.beq j id with
    | true => some K
    | false => wayE id K
  | _ :: K => wayE id K
def wayN : List KI → Way
  | [] => .ret
  | .seq i :: K => .node i K
  | .blk _ :: K => wayN K
  | .lp _ :: _ => .back

section
variable {P : Program} {fn : Func} {R : Ending → World → Prop} {B : Code} {K K' : List KI} {i : Nat} {a : Act} {w : World}
theorem wayN_node (h : wayN K = .node i K') (hk : At P fn R B K' i a w) : cont P fn R B K .normal a w := by
  induction K with
  | nil => simp [wayN] at h
  | cons x K ih =>
    cases x with
    | seq j => simp only [wayN, Way.node.injEq] at h; obtain ⟨rfl, rfl⟩ := h; exact hk
    | blk id => exact ih (by simpa [wayN] using h)
    | lp J => simp [wayN] at h
theorem wayN_ret (h : wayN K = .ret) (hk : bodyPost P fn R .normal a w) : cont P fn R B K .normal a w := by
  induction K with
  | nil => exact hk
  | cons x K ih =>
    cases x with
    | seq j => simp [wayN] at h
    | blk id => exact ih (by simpa [wayN] using h)
    | lp J => simp [wayN] at h
/-- The loop's own relation, where the round ends. -/
def lpOf : List KI → Act → World → Prop
  | .blk _ :: K => lpOf K
  | .lp J :: _ => J
  | _ => fun _ _ => False
theorem wayN_back (hk : lpOf K a w) : cont P fn R B K .normal a w := by
  induction K with
  | nil => exact hk.elim
  | cons x K ih =>
    cases x with
    | seq j => exact hk.elim
    | blk id => exact ih hk
    | lp J => exact hk
theorem wayE_ok {id : Nat} (h : wayE id K = some K') (hk : cont P fn R B K' .normal a w) : cont P fn R B K (.exit id) a w := by
  induction K with
  | nil => simp [wayE] at h
  | cons x K ih =>
    cases x with
    | seq j => exact ih (by simpa [wayE] using h)
    | lp J => exact ih (by simpa [wayE] using h)
    | blk j =>
      simp only [wayE] at h
      split at h
      · rename_i he
        have : j = id := Nat.eq_of_beq_eq_true he
        subst this
        injection h with h
        subst h
        show Exit.inBlock j (cont P fn R B K) (.exit j) a w
        simpa [Exit.inBlock] using hk
      · rename_i he
        have hne : ¬ id = j := fun e => by subst e; simp at he
        show Exit.inBlock j (cont P fn R B K) (.exit id) a w
        simp only [Exit.inBlock, hne, if_false]
        exact ih h
theorem cont_ret (hk : bodyPost P fn R .ret a w) : cont P fn R B K .ret a w := by
  induction K with
  | nil => exact hk
  | cons x K ih => cases x <;> exact ih

/-- A node that only leads on. -/
theorem at_seq {j : Nat} (hc : nth B i = .seq (nth B (i + 1)) (nth B j)) (h : At P fn R B (.seq j :: K) (i + 1) a w) : At P fn R B K i a w := by
  unfold At; rw [hc]; exact wp_seq h
theorem at_block {id : Nat} (hc : nth B i = .block id (nth B (i + 1))) (h : At P fn R B (.blk id :: K) (i + 1) a w) : At P fn R B K i a w := by
  unfold At; rw [hc]; exact wp_block h
theorem at_skip (hc : nth B i = .skip) (h : cont P fn R B K .normal a w) : At P fn R B K i a w := by
  unfold At; rw [hc]; exact wp_skip h
theorem at_exit {id : Nat} (hc : nth B i = .exit id) (h : cont P fn R B K (.exit id) a w) : At P fn R B K i a w := by
  unfold At; rw [hc]; exact wp_exit h
theorem at_ret (hc : nth B i = .ret) (h : bodyPost P fn R .ret a w) : At P fn R B K i a w := by
  unfold At; rw [hc]; exact wp_ret (cont_ret h)
theorem at_region {id : Nat} (hc : nth B i = .region id (opsAt (nth B i)) false) (h : AtR P fn R B K i 0 a w) : At P fn R B K i a w := by
  unfold At; rw [hc]; exact wp_region_list (by simpa [AtR] using h)
theorem at_cond {n : Nat} {L : Sl} {t j1 j2 : Nat} {b : Bool} (hc : nth B i = .cond (.tmp t) (nth B j1) (nth B j2)) (hs : St n L a) (hl : look L t = some (.bool b)) (h1 : b = true → At P fn R B K j1 a w) (h2 : b = false → At P fn R B K j2 a w) : At P fn R B K i a w := by
  unfold At; rw [hc]
  have := hs.slot t _ hl
  exact wp_cond_split (t := b) (by simp [Act.eval, Array.getD_eq_getD_getElem?, this]) h1 h2
theorem atR_end {k : Nat} (hk : (opsAt (nth B i)).toList.drop k = []) (h : cont P fn R B K .normal a w) : AtR P fn R B K i k a w := by
  unfold AtR; rw [hk]; exact h

/-- A stretch. -/
theorem atR_seg {n k m : Nat} {L L' : Sl} {H : Hints} {ts : List Nat} {O : World → Prop} (hs : St n L a) (he : seg P (opsAt (nth B i)) n k m L H ts = some (L', O)) (hO : O w) (h : ∀ a', St n L' a' → AtR P fn R B K i (k + m) a' w) : AtR P fn R B K i k a w := by
  unfold seg at he
  split at he
  · rename_i L1 O1 h1
    split at he
    · rename_i L2 h2
      simp only [Option.some.injEq, Prod.mk.injEq] at he
      obtain ⟨rfl, rfl⟩ := he
      have : (opsAt (nth B i)).toList.drop k = ((opsAt (nth B i)).toList.drop k).take m ++ (opsAt (nth B i)).toList.drop (k + m) := by
        rw [← List.drop_drop, List.take_append_drop]
      unfold AtR
      rw [this]
      exact segL_wp _ k L L1 O1 a h1 hO hs fun a' ha' => h a' (ha'.pick h2)
    · cases he
  · cases he
end
end Go.Proofs.YtcaiedfkohigjaaGreat
/- The engine: new blocks, stores, calls, loops, the function's beginning and end. -/
namespace Go.Proofs.YtcaiedfkohigjaaGreat
open Go.RowKit

/-- A tree that only looks into the program. -/
def evP (P : Program) : Sem Next → Option Next
  | .pure n => some n
  | .program k => evP P (k P)
  | _ => none
theorem evP_run {P : Program} {w : World} : ∀ (t : Sem Next) (n : Next), evP P t = some n → t.run P w = .ok n w := by
  intro t
  induction t with
  | pure m => intro n h; simp [evP] at h; rw [h]; rfl
  | program k ih => intro n h; exact ih P n h
  | _ => intro n h; simp [evP] at h
def evN (P : Program) (r : Nat) : Sem Next → Option (Obj × Next)
  | .program k => evN P r (k P)
  | .new o k => match evP P (k r) with
    | some n => some (o, n)
    | none => none
  | _ => none
theorem evN_run {P : Program} {w : World} : ∀ (t : Sem Next) (o : Obj) (n : Next), evN P w.heap.size t = some (o, n) → t.run P w = .ok n (w.alloc o) := by
  intro t
  induction t with
  | program k ih => intro o n h; exact ih P o n h
  | new o' k ih =>
    intro o n h
    simp only [evN] at h
    split at h
    · rename_i m hm
      simp only [Option.some.injEq, Prod.mk.injEq] at h
      obtain ⟨rfl, rfl⟩ := h
      exact evP_run (w := w.alloc o') _ _ hm
    · cases h
  | _ => intro o n h; simp [evN] at h

def opAt (c : Code) (k : Nat) : Oper := ((opsAt c).toList[k]?).getD default
def hasOp (c : Code) (k : Nat) : Bool := Nat.ble (k + 1) (opsAt c).toList.length
def putK (n : Nat) (L : Sl) (d : Option Nat) (v : Value) (ts : List Nat) : Option Sl :=
  match putL n L d v with
  | some L' => pickL L' ts
  | none => none
theorem St.putK_ {n : Nat} {L L' : Sl} {a : Act} {d : Option Nat} {v : Value} {ts : List Nat} (h : St n L a) (hp : putK n L d v ts = some L') : St n L' (a.put d v) := by
  unfold putK at hp
  split at hp
  · rename_i L1 h1
    exact (h.put h1).pick hp
  · cases hp
/-- Operation k of a region is there, its guard is met, its operands are known. -/
def goes (L : Sl) (c : Code) (k : Nat) : Bool := hasOp c k && opsOk L (opAt c k).op && (match wantedL (opsAt c) L (opAt c k) with | some true => true | _ => false)

section
variable {P : Program} {fn : Func} {R : Ending → World → Prop} {B : Code} {K K' : List KI} {i : Nat} {a : Act} {w : World}

theorem atR_op {n k : Nat} {L : Sl} (hs : St n L a) (hg : goes L (nth B i) k = true)
    (h : (opAt (nth B i) k).upon P a (fun a' w' => AtR P fn R B K i (k + 1) a' w') (cont P fn R B K) ((execOp (envOf L) (opAt (nth B i) k)).run P w)) : AtR P fn R B K i k a w := by
  simp only [goes, Bool.and_eq_true] at hg
  obtain ⟨⟨hk, hok⟩, hwt⟩ := hg
  have hlt : k < (opsAt (nth B i)).toList.length := by have := Nat.le_of_ble_eq_true hk; omega
  have ho : opAt (nth B i) k = (opsAt (nth B i)).toList[k] := by unfold opAt; rw [List.getElem?_eq_getElem hlt]; rfl
  generalize hoo : opAt (nth B i) k = o at *
  unfold AtR
  have : (opsAt (nth B i)).toList.drop k = o :: (opsAt (nth B i)).toList.drop (k + 1) := by
    rw [ho]; exact List.drop_eq_getElem_cons hlt
  rw [this]
  unfold wpList
  have hw : wantedL (opsAt (nth B i)) L o = some true := by
    cases hh : wantedL (opsAt (nth B i)) L o with
    | none => simp [hh] at hwt
    | some b => cases b <;> simp [hh] at hwt ⊢
  rw [if_pos (hs.wanted hw)]
  refine .inl ?_
  unfold Oper.wp
  rw [hs.exec o hok]
  exact h

/-- What a new block does to the world. -/
structure New (w w' : World) (r : Nat) (t : TypeId) (cs : Array Value) : Prop where
  blk : Blk w' r t cs
  at_ : r = w.heap.size
  size : w'.heap.size = w.heap.size + 1
  below : Below w.heap.size w w'
theorem New.mk_ (w : World) (t : TypeId) (cs : Array Value) : New w (w.alloc (.cells cs t)) w.heap.size t cs := ⟨Blk.new _ _ _, rfl, by simp, (Below.refl _ _).alloc (Nat.le_refl _) _⟩

/-- A box, a new variable, a slice literal: F r is the value, r the new block. -/
theorem new1 {N : Act → World → Prop} {Q : Exit → Act → World → Prop} {o : Oper} {n : Nat} {L : Sl} {t : TypeId} {cs : Array Value} (F : Nat → Value) (ts : List Nat) (L' : Nat → Sl) (hs : St n L a)
    (he : ∀ r, evN P r (execOp (envOf L) o) = some (.cells cs t (0, 0), .value (F r))) (hp : ∀ r, putK n L o.dst (F r) ts = some (L' r))
    (h : ∀ a' w' r, New w w' r t cs → St n (L' r) a' → N a' w') : o.upon P a N Q ((execOp (envOf L) o).run P w) := by
  rw [evN_run _ _ _ (he w.heap.size)]
  exact h _ _ _ (New.mk_ w t cs) (hs.putK_ (hp _))

/-- A call: its function, its arguments. -/
theorem call1 {N : Act → World → Prop} {Q : Exit → Act → World → Prop} {o : Oper} {n f : Nat} {L : Sl} {args : Array Value} (ts : List Nat) (L' : Value → Sl) (hs : St n L a)
    (he : evP P (execOp (envOf L) o) = some (.enter f args)) (hp : ∀ v, putK n L o.dst v ts = some (L' v))
    (h : Calls P f args w fun e w' => ∃ v, e = .returned v ∧ ∀ a', St n (L' v) a' → N a' w') : o.upon P a N Q ((execOp (envOf L) o).run P w) := by
  rw [evP_run _ _ he]
  refine Calls.mono h fun e w' ⟨v, hv, hk⟩ => ?_
  subst hv
  exact hk _ (hs.putK_ (hp v))

/-- Stores, one after another. -/
def evS (P : Program) : Sem Next → Option (List (Addr × Value))
  | .program k => evS P (k P)
  | .store .plain a v k => match evS P k with
    | some l => some ((a, v) :: l)
    | none => none
  | .pure .skip => some []
  | _ => none
def cellVal : Value → Prop
  | .agg _ => False
  | .tuple _ => False
  | _ => True
def setAll : World → List (Addr × Value) → World
  | w, [] => w
  | w, (a, v) :: l => setAll (w.setCell a v) l
def canAll : World → List (Addr × Value) → Prop
  | _, [] => True
  | w, (a, v) :: l => cellVal v ∧ (∃ u, w.cell? a = some u) ∧ w.frozen? a = false ∧ canAll (w.setCell a v) l
theorem evS_run {P : Program} : ∀ (t : Sem Next) (l : List (Addr × Value)) (w : World), evS P t = some l → canAll w l → t.run P w = .ok .skip (setAll w l) := by
  intro t
  induction t with
  | program k ih => intro l w h hc; exact ih P l w h hc
  | pure m =>
    intro l w h hc
    cases m <;> simp [evS] at h
    subst h; rfl
  | store m ad v k ih =>
    intro l w h hc
    cases m with
    | atomic => simp [evS] at h
    | plain =>
      simp only [evS] at h
      split at h
      · rename_i l' hl
        injection h with h
        subst h
        obtain ⟨h1, ⟨u, hu⟩, h2, h3⟩ := hc
        have := ih l' _ hl h3
        cases v <;> first | exact h1.elim | (simp only [Sem.run, hu, h2]; exact this)
      · cases h
  | _ => intro l w h; simp [evS] at h

/-- The stores go to one block: what it holds behind them. -/
structure Upd (w w' : World) (b : Nat) : Prop where
  os : w'.os = w.os
  tape : w'.tape = w.tape
  output : w'.output = w.output
  size : w'.heap.size = w.heap.size
  block : ∀ k, k ≠ b → w'.heap[k]? = w.heap[k]?
theorem Upd.below {w w' : World} {b B : Nat} (h : Upd w w' b) (hb : B ≤ b) : Below B w w' := ⟨h.os, h.tape, h.output, by rw [h.size]; exact Nat.le_refl _, fun k hk => h.block k (by omega)⟩
theorem Upd.blk {w w' : World} {b g : Nat} {t : TypeId} {cs : Array Value} (h : Upd w w' b) (hg : Blk w g t cs) (hne : g ≠ b) : Blk w' g t cs := (h.block g hne).trans hg
def inBlk (b : Nat) : List (Nat × Value) → List (Addr × Value)
  | [] => []
  | (o, v) :: l => (⟨b, o, none⟩, v) :: inBlk b l
def setRow : Array Value → List (Nat × Value) → Array Value
  | cs, [] => cs
  | cs, (o, v) :: l => setRow (cs.setIfInBounds o v) l
def rowOk (n : Nat) : List (Nat × Value) → Prop
  | [] => True
  | (o, v) :: l => o < n ∧ cellVal v ∧ rowOk n l
theorem setAll_blk {b : Nat} {t : TypeId} : ∀ (l : List (Nat × Value)) (w : World) (cs : Array Value), Blk w b t cs → rowOk cs.size l → canAll w (inBlk b l) ∧ Blk (setAll w (inBlk b l)) b t (setRow cs l) ∧ Upd w (setAll w (inBlk b l)) b := by
  intro l
  induction l with
  | nil => intro w cs hb _; exact ⟨trivial, hb, ⟨rfl, rfl, rfl, rfl, fun _ _ => rfl⟩⟩
  | cons x l ih =>
    intro w cs hb hr
    obtain ⟨o, v⟩ := x
    obtain ⟨h1, h2, h3⟩ := hr
    have hb' : Blk (w.setCell ⟨b, o, none⟩ v) b t (cs.setIfInBounds o v) := hb.set o v
    obtain ⟨i1, i2, i3⟩ := ih _ _ hb' (by simpa using h3)
    refine ⟨⟨h2, ⟨cs[o], hb.cell o (by simp [h1])⟩, hb.free o, i1⟩, i2, ⟨i3.os, i3.tape, i3.output, ?_, fun k hk => (i3.block k hk).trans (Below.heap_setCell _ _ _ _ hk)⟩⟩
    rw [show setAll w (inBlk b ((o, v) :: l)) = setAll (w.setCell ⟨b, o, none⟩ v) (inBlk b l) from rfl, i3.size]
    simp [World.setCell]

theorem store1 {N : Act → World → Prop} {Q : Exit → Act → World → Prop} {o : Oper} {n b : Nat} {L : Sl} {t : TypeId} {cs : Array Value} (cs' : Array Value) (l : List (Nat × Value)) (ts : List Nat) (L' : Sl) (hs : St n L a) (hb : Blk w b t cs)
    (he : evS P (execOp (envOf L) o) = some (inBlk b l)) (hr : rowOk cs.size l) (hcs : setRow cs l = cs') (hp : putK n L o.dst undef ts = some L')
    (h : ∀ a' w', Blk w' b t cs' → Upd w w' b → St n L' a' → N a' w') : o.upon P a N Q ((execOp (envOf L) o).run P w) := by
  obtain ⟨i1, i2, i3⟩ := setAll_blk l w cs hb hr
  rw [evS_run _ _ _ he i1]
  subst hcs
  exact h _ _ i2 i3 (hs.putK_ hp)

/-- 'append' onto a row of the call's own. -/
theorem append1 {N : Act → World → Prop} {Q : Exit → Act → World → Prop} {o : Oper} {n : Nat} {L : Sl} {base t e size bytes m q c : Nat} {v : Value} {b off : Nat} {xs cs : List Value} (sx : Operand × Operand) (ts : List Nat) (L' : Value → Sl) (hs : St n L a)
    (hop : o.op = .call { callee := .builtin .append, args := #[sx.1, sx.2], argTypes := #[t, t] }) (h1 : envOf L sx.1 = v) (h2 : envOf L sx.2 = .slice (some ⟨b, off, none⟩) m c) (hp : ∀ v, putK n L o.dst v ts = some (L' v))
    (hE : Elem P t e size bytes) (hown : w.ownsRow base e size v q xs) (hl : cs.length = m * size) (hcs : ∀ j u, cs[j]? = some u → w.cell? ⟨b, off + j, none⟩ = some u) (hc1 : ∀ u ∈ cs, u.oneCell' = true)
    (h63 : q + m ≤ maxLen) (hbytes : (q + m) * bytes ≤ 140737488355328) (hbase : base ≤ w.heap.size)
    (h : ∀ v' a' w', w'.ownsRow base e size v' (q + m) (xs ++ cs) → w.grownBy w' v.ownBlock → St n (L' v') a' → N a' w') : o.upon P a N Q ((execOp (envOf L) o).run P w) := by
  obtain ⟨ht, hsz, inf, z, hi, hz, h3, h4, h5⟩ := hE
  obtain ⟨v', w', hrun, g1, g2, _⟩ := run_append_own (P := P) w base t o.type e inf z size bytes ht hi hz h3 h4 h5 hsz v q xs hown ⟨b, off, none⟩ m c cs hl (fun j u hu => by rw [add_plain]; exact hcs j u hu) hc1 h63 hbytes hbase
  have : (execOp (envOf L) o).run P w = .ok (.value v') w' := by
    unfold execOp
    simp only [hop, resolve, invoke, builtin, Sem.run_bind, Sem.run_pure, Result.andThen_ok, List.map_toArray, List.map_cons, List.map_nil, h1, h2, hrun]
  rw [this]
  exact h _ _ _ g1 g2 (hs.putK_ (hp v'))

theorem least (p : Nat → Prop) (h : ∃ n, p n) : ∃ n, p n ∧ ∀ m, p m → n ≤ m := by
  obtain ⟨n, hn⟩ := h
  induction n using Nat.strongRecOn with
  | _ n ih =>
    by_cases hm : ∃ m, m < n ∧ p m
    · obtain ⟨m, hlt, hp⟩ := hm
      exact ih m hlt hp
    · exact ⟨n, hn, fun m hp => by rcases Nat.lt_or_ge m n with h | h; exact absurd ⟨m, h, hp⟩ hm; exact h⟩
/-- A loop with a ghost. -/
theorem wp_loop_g {c : Code} {Q : Exit → Act → World → Prop} {σ : Type} (I : σ → Act → World → Prop) (m : σ → Nat) (x0 : σ) (h0 : I x0 a w)
    (round : ∀ x a w, I x a w → c.wp P (Exit.then (fun a' w' => ∃ x', I x' a' w' ∧ m x' < m x) Q) a w) : (Code.loop c).wp P Q a w := by
  classical
  have hμ : ∃ μ : Act → World → Nat, ∀ a w x, I x a w → ∃ y, I y a w ∧ m y = μ a w ∧ μ a w ≤ m x := by
    refine ⟨fun a w => if h : ∃ n, (∃ x, I x a w ∧ m x = n) then Classical.choose (least _ h) else 0, fun a w x hx => ?_⟩
    have hex : ∃ n, (∃ x, I x a w ∧ m x = n) := ⟨m x, x, hx, rfl⟩
    dsimp only
    rw [dif_pos hex]
    obtain ⟨⟨y, hy, hm⟩, hmin⟩ := Classical.choose_spec (least _ hex)
    exact ⟨y, hy, hm, hmin _ ⟨x, hx, rfl⟩⟩
  obtain ⟨μ, hμ⟩ := hμ
  refine wp_loop (fun a w => ∃ x, I x a w) μ ⟨x0, h0⟩ ?_
  rintro a w ⟨x, hx⟩
  obtain ⟨y, hy, hm, _⟩ := hμ a w x hx
  refine Code.wp_mono (fun e a' w' hq => ?_) (round y a w hy)
  cases e with
  | normal =>
    obtain ⟨x', hx', hlt⟩ := hq
    obtain ⟨_, _, _, hle⟩ := hμ a' w' x' hx'
    exact ⟨⟨x', hx'⟩, by omega⟩
  | _ => exact hq
theorem at_loop {σ : Type} (I : σ → Act → World → Prop) (m : σ → Nat) (x0 : σ) (hc : nth B i = .loop (nth B (i + 1))) (h0 : I x0 a w)
    (round : ∀ x a w, I x a w → At P fn R B (.lp (fun a' w' => ∃ x', I x' a' w' ∧ m x' < m x) :: K) (i + 1) a w) : At P fn R B K i a w := by
  unfold At; rw [hc]
  exact wp_loop_g I m x0 h0 round

/-- The beginning of a function. -/
def argL : Nat → List Value → Sl
  | _, [] => []
  | k, v :: l => (k, v) :: argL (k + 1) l
theorem argL_look : ∀ (l : List Value) (k t : Nat) (v : Value), look (argL k l) t = some v → k ≤ t ∧ l[t - k]? = some v := by
  intro l
  induction l with
  | nil => intro k t v h; simp [argL, look] at h
  | cons x l ih =>
    intro k t v h
    simp only [argL, look] at h
    split at h
    · rename_i he
      have : k = t := Nat.eq_of_beq_eq_true he
      subst this
      simpa using h
    · obtain ⟨h1, h2⟩ := ih (k + 1) t v h
      refine ⟨by omega, ?_⟩
      rw [show t - k = (t - (k + 1)) + 1 by omega]
      simpa using h2
theorem enter {f : FuncId} {args : List Value} (hf : P.funcs[f]? = some fn) (hB : fn.body = some B) (hn : Nat.ble args.length fn.ntmps = true)
    (h : ∀ a, St fn.ntmps (argL 0 args) a → At P fn R B [] 0 a w) : Calls P f args.toArray w R := by
  refine calls_of_wp hf hB ?_
  have hn := Nat.le_of_ble_eq_true hn
  have := h { tmps := args.toArray ++ Array.replicate (fn.ntmps - args.toArray.size) undef, defers := [] } ⟨rfl, by simp; omega, fun t v hv => by
    obtain ⟨_, h2⟩ := argL_look args 0 t v hv
    have hlt : t < args.length := (List.getElem?_eq_some_iff.1 h2).1
    rw [Array.getElem?_append_left (by simpa using hlt)]
    simpa using h2⟩
  unfold At at this
  have h0 : nth B 0 = B := by cases B <;> rfl
  rw [h0] at this
  exact this

/-- The end: what the results are. -/
def evV (P : Program) : Sem Value → List Value → Option (Value × Obl)
  | .pure n, [] => some (n, [])
  | .program k, H => evV P (k P) H
  | .load .plain a k, v :: H => match evV P (k v) H with
    | some (n, O) => some (n, (fun w => w.cell? a = some v) :: O)
    | none => none
  | _, _ => none
theorem evV_run {P : Program} {w : World} : ∀ (t : Sem Value) (H : List Value) (n : Value) (O : Obl), evV P t H = some (n, O) → conj O w → t.run P w = .ok n w := by
  intro t
  induction t with
  | pure m =>
    intro H n O h _
    cases H with
    | nil => simp [evV] at h; rw [h.1]; rfl
    | cons => simp [evV] at h
  | program k ih =>
    intro H n O h hO
    simp only [evV] at h
    exact ih P H n O h hO
  | load m a k ih =>
    intro H n O h hO
    cases m with
    | atomic => cases H <;> simp [evV] at h
    | plain =>
      cases H with
      | nil => simp [evV] at h
      | cons v H =>
        simp only [evV] at h
        cases hr : evV P (k v) H with
        | none => simp [hr] at h
        | some r =>
          obtain ⟨n', O'⟩ := r
          simp only [hr, Option.some.injEq, Prod.mk.injEq] at h
          obtain ⟨rfl, rfl⟩ := h
          simp only [Sem.run, hO.1]
          exact ih v H _ _ hr hO.2
  | _ => intro H n O h; cases H <;> simp [evV] at h
def resVal (P : Program) (L : Sl) : List ResultVar → List Value → Option (List Value × Obl)
  | [], [] => some ([], [])
  | .tmp t :: rs, H => match look L t with
    | some v => match resVal P L rs H with
      | some (vs, O) => some (v :: vs, O)
      | none => none
    | none => none
  | .cell ad t :: rs, H => match look L ad with
    | some (.pointer (some p)) => match P.info? t with
      | some inf => match evV P (loadVar t p) (H.take inf.size) with
        | some (v, O) => match resVal P L rs (H.drop inf.size) with
          | some (vs, O') => some (v :: vs, O ++ O')
          | none => none
        | none => none
      | none => none
    | _ => none
  | _, _ => none
def bundle : List Value → Value
  | [v] => v
  | vs => .tuple vs.toArray
theorem resVal_run {n : Nat} {L : Sl} (hs : St n L a) : ∀ (rs : List ResultVar) (H vs : List Value) (O : Obl), resVal P L rs H = some (vs, O) → conj O w → ∀ _acc : List Value,
    ((rs.mapM (m := Sem) fun
      | .tmp t => pure (a.tmps.getD t undef)
      | .cell ad t => do loadVar t (← asAddr (a.tmps.getD ad undef))).run P w) = .ok vs w := by
  intro rs
  induction rs with
  | nil =>
    intro H vs O h _ _
    cases H <;> simp [resVal] at h
    obtain ⟨rfl, rfl⟩ := h
    rfl
  | cons r rs ih =>
    intro H vs O h hO acc
    rw [List.mapM_cons]
    cases r with
    | tmp t =>
      simp only [resVal] at h
      split at h
      · rename_i v hv
        split at h
        · rename_i vs' O' hr
          simp only [Option.some.injEq, Prod.mk.injEq] at h
          obtain ⟨rfl, rfl⟩ := h
          have := ih H vs' O' hr hO acc
          have hsl := hs.slot _ _ hv
          simp only [Sem.run_bind, Sem.run_pure, Result.andThen_ok, Array.getD_eq_getD_getElem?, hsl, Option.getD_some] at this ⊢
          rw [this]
          rfl
        · cases h
      · cases h
    | cell ad t =>
      simp only [resVal] at h
      split at h
      · rename_i p hv
        split at h
        · rename_i inf hinf
          split at h
          · rename_i v O1 h1
            split at h
            · rename_i vs' O' hr
              simp only [Option.some.injEq, Prod.mk.injEq] at h
              obtain ⟨rfl, rfl⟩ := h
              obtain ⟨hO1, hO2⟩ := conj_append hO
              have := ih _ vs' O' hr hO2 acc
              have hsl := hs.slot _ _ hv
              have hld := evV_run _ _ _ _ h1 hO1
              simp only [Sem.run_bind, Sem.run_pure, Result.andThen_ok, Array.getD_eq_getD_getElem?, hsl, Option.getD_some, asAddr, hld] at this ⊢
              rw [this]
              rfl
            · cases h
          · cases h
        · cases h
      · cases h
def resK (P : Program) (L : Sl) (rs : List ResultVar) (H : List Value) : Option (List Value × (World → Prop)) :=
  match resVal P L rs H with
  | some (vs, O) => some (vs, conj O)
  | none => none
theorem at_end {n : Nat} {L : Sl} {H vs : List Value} {O : World → Prop} {v : Value} (hs : St n L a) (he : resK P L fn.results.toList H = some (vs, O)) (hv : bundle vs = v) (hO : O w) (h : R (.returned v) w) : bodyPost P fn R .ret a w := by
  unfold resK at he
  split at he
  case h_2 => cases he
  rename_i vs0 O0 he0
  simp only [Option.some.injEq, Prod.mk.injEq] at he
  obtain ⟨rfl, rfl⟩ := he
  replace he := he0
  refine ⟨hs.defers, v, ?_, h⟩
  have := resVal_run (P := P) (w := w) hs fn.results.toList H _ O0 he hO []
  unfold Go.results
  generalize hrs : fn.results = rs at *
  obtain ⟨l⟩ := rs
  subst hv
  simp only [List.mapM_toArray, bind_map_left]
  simp only [Sem.run_bind]
  refine (congrArg (fun r : Result (List Value) => r.andThen fun (a : List Value) w' => Sem.run P (pure (if h : a.toArray.size = 1 then a.toArray[0] else Value.tuple a.toArray)) w') this).trans ?_
  match vs0 with
  | [] => rfl
  | [x] => rfl
  | x :: y :: r => simp [bundle]
end
end Go.Proofs.YtcaiedfkohigjaaGreat
/- The engine: regions that draw their order; small lemmas on numbers. -/
namespace Go.Proofs.YtcaiedfkohigjaaGreat
open Go.RowKit

def W (k : IntKind) (n : Int) : Prop := Value.int k (k.wrap n) = .int k n
theorem w64 {n : Int} (h1 : -9223372036854775808 ≤ n) (h2 : n ≤ 9223372036854775807) : W .i64 n := by unfold W; rw [IntWalk.i64_in n ⟨h1, h2⟩]
theorem wu64 {n : Int} (h1 : 0 ≤ n) (h2 : n ≤ 18446744073709551615) : W .u64 n := by unfold W; rw [IntWalk.u64_in n ⟨h1, h2⟩]
theorem wu32 {n : Int} (h1 : 0 ≤ n) (h2 : n ≤ 4294967295) : W .u32 n := by unfold W; rw [IntWalk.u32_in n ⟨h1, h2⟩]
def Wn (k : IntKind) (x : Int) : Prop := Value.int k (k.wrap (0 - x)) = .int k (-x)
theorem wn64 {n : Int} (h1 : -9223372036854775807 ≤ n) (h2 : n ≤ 9223372036854775808) : Wn .i64 n := by unfold Wn; rw [IntWalk.i64_in _ ⟨by omega, by omega⟩, Int.zero_sub]
def Wq (x y : Int) : Prop := Value.int .i64 (IntKind.i64.wrap (x.tdiv y)) = .int .i64 (x / y)
theorem wq {x y : Int} (h0 : 0 ≤ x) (h1 : x ≤ 9223372036854775807) (h2 : 1 ≤ y) : Wq x y := by
  unfold Wq
  rw [Int.tdiv_eq_ediv_of_nonneg h0]
  have h3 : 0 ≤ x / y := Int.ediv_nonneg h0 (by omega)
  have h4 : x / y ≤ x := Int.ediv_le_self y h0
  rw [IntWalk.i64_in _ ⟨by omega, by omega⟩]
def Wm (k : IntKind) (x y : Int) : Prop := Value.int k (x.tmod y) = .int k (x % y)
theorem wm {k : IntKind} {x y : Int} (h0 : 0 ≤ x) : Wm k x y := by unfold Wm; rw [Int.tmod_eq_emod_of_nonneg h0]

section
variable {n : Nat} {L : Sl} {a : Act}
/-- A slot's Bool is known now. -/
theorem St.know {t : Nat} {b c : Bool} (h : St n L a) (hl : look L t = some (.bool b)) (hb : b = c) : St n ((t, .bool c) :: L) a := by
  subst hb
  refine ⟨h.defers, h.size, fun s v hv => ?_⟩
  simp only [look] at hv
  split at hv
  · rename_i he
    have : t = s := Nat.eq_of_beq_eq_true he
    subst this
    injection hv with hv
    subst hv
    exact h.slot _ _ hl
  · exact h.slot s v hv
/-- The same slots, their values said otherwise. -/
def SubP (L : Sl) : Sl → Prop
  | [] => True
  | (t, v) :: r => (∃ u, look L t = some u ∧ u = v) ∧ SubP L r
theorem SubP_look {L : Sl} : ∀ {L' : Sl}, SubP L L' → ∀ t v, look L' t = some v → look L t = some v := by
  intro L'
  induction L' with
  | nil => intro _ t v h; simp [look] at h
  | cons x r ih =>
    obtain ⟨s, u⟩ := x
    intro h t v hv
    simp only [look] at hv
    split at hv
    · rename_i he
      have : s = t := Nat.eq_of_beq_eq_true he
      subst this
      injection hv with hv
      subst hv
      obtain ⟨⟨u', hu, rfl⟩, _⟩ := h
      exact hu
    · exact ih h.2 t v hv
theorem St.sub {L' : Sl} (h : St n L a) (hs : SubP L L') : St n L' a := ⟨h.defers, h.size, fun t v hv => h.slot t v (SubP_look hs t v hv)⟩
end

/-! A region that draws its order. -/
def mkL (n : Nat) : List Nat → Array Bool
  | [] => Array.replicate n false
  | i :: D => (mkL n D).setIfInBounds i true
theorem mkL_size (n : Nat) : ∀ D, (mkL n D).size = n
  | [] => by simp [mkL]
  | i :: D => by simp [mkL, mkL_size n D]

/-- A panic's post asks nothing of the slots. -/
def PQ (Q : Exit → Act → World → Prop) : Prop := ∀ c a d v w, Q (.panic c) (Act.put a d v) w → Q (.panic c) a w
theorem PQ_body {P : Program} {fn : Func} {R : Ending → World → Prop} : PQ (bodyPost P fn R) := by
  intro c a d v w h
  cases d <;> exact h
theorem PQ_cont {P : Program} {fn : Func} {R : Ending → World → Prop} {B : Code} : ∀ K, PQ (cont P fn R B K)
  | [] => PQ_body
  | .seq _ :: K => fun c a d v w h => PQ_cont K c a d v w h
  | .blk _ :: K => fun c a d v w h => PQ_cont K c a d v w h
  | .lp _ :: K => fun c a d v w h => PQ_cont K c a d v w h

def AtD (P : Program) (fn : Func) (R : Ending → World → Prop) (B : Code) (K : List KI) (i : Nat) (S : World → Prop) (m : Nat) (D : List Nat) (a : Act) (w : World) : Prop :=
  wpAnyH P .any (opsAt (nth B i)) (cont P fn R B K) S m (mkL (opsAt (nth B i)).size D) a w

section
variable {P : Program} {fn : Func} {R : Ending → World → Prop} {B : Code} {K : List KI} {i : Nat} {a : Act} {w : World} {S : World → Prop}

theorem at_draw (S : World → Prop) {id : Nat} (hm : P.follows .mixedOrders = true) (hc : nth B i = .region id (opsAt (nth B i)) true) (m : Nat) (hsz : (opsAt (nth B i)).size = m) (h : ∀ w', Below w.heap.size w w' → AtD P fn R B K i S m [] a w') : At P fn R B K i a w := by
  unfold At; rw [hc]
  refine wp_region_held (S := S) hm ?_
  subst hsz
  have := h w.drew ((Below.refl _ _).drew)
  simpa [AtD, mkL, opsAt] using this

theorem putL_look {n : Nat} {L L' : Sl} {d : Nat} {v : Value} (h : putL n L (some d) v = some L') : look L' d ≠ none := by
  simp only [putL] at h
  split at h
  · injection h with h
    subst h
    simp [look]
  · cases h
theorem stp_dst {n : Nat} {L L' : Sl} {o : Oper} {h : Option Value × List Value} {O : Obl} {ops : Array Oper} (he : stp P ops n L o h = some (L', O)) {d : Nat} (hd : o.dst = some d) (hl : look L' d = none) : False := by
  unfold stp at he
  rw [hd] at he
  repeat' split at he
  all_goals first | (cases he; done) | skip
  all_goals
    simp only [Option.some.injEq, Prod.mk.injEq] at he
    obtain ⟨rfl, rfl⟩ := he
    exact putL_look ‹_› hl
theorem stp_yields {n : Nat} {L L' : Sl} {o : Oper} {h : Option Value × List Value} {O : Obl} {ops : Array Oper} (hs : St n L a) (he : stp P ops n L o h = some (L', O)) (hO : ∀ w, S w → conj O w)
    {d : Nat} (hd : o.dst = some d) (hS : S w) : ∃ u, YieldsIf P ops S o u a ∧ St n L' (a.put o.dst u) := by
  obtain ⟨u, hu, hr⟩ := stp_run hs he (hO w hS)
  refine ⟨u, ?_, hu⟩
  rcases hr with ⟨hw, hrun⟩ | ⟨hw, rfl⟩
  · refine .inl ⟨hw, fun w' hw' => ?_⟩
    obtain ⟨v, hv, ⟨_, hr'⟩ | ⟨hf, _⟩⟩ := stp_run hs he (hO w' hw')
    · have e : v = u := by
        have h0 := hu.size
        rw [hd] at h0 hu hv
        simp only [Act.put, Array.size_setIfInBounds] at h0
        cases hl : look L' d with
        | none =>
          exfalso
          exact stp_dst he hd hl
        | some x =>
          have h1 := hu.slot d x hl
          have h2 := hv.slot d x hl
          simp only [Act.put, Array.getElem?_setIfInBounds, if_true] at h1 h2
          split at h1
          · rename_i hlt
            simp only [hlt, if_true, Option.some.injEq] at h1 h2
            rw [h2, h1]
          · cases h1
      subst e
      exact hr'
    · rw [hw] at hf; cases hf
  · exact .inr ⟨hw, rfl⟩

/-- Quiet operations, in the order 'js'. -/
def segD (P : Program) (c : Code) (n : Nat) (H : Hints) : List Nat → Sl → Option (Sl × Obl)
  | [], L => some (L, [])
  | j :: js, L => match stp P (opsAt c) n L (opAt c j) (hint H j) with
    | some (L', O) => match segD P c n H js L' with
      | some (L'', O') => some (L'', O ++ O')
      | none => none
    | none => none
def okD (c : Code) : List Nat → List Nat → Bool
  | [], _ => Region.noSelect (opsAt c)
  | j :: js, D => hasOp c j && (opAt c j).dst.isSome && Region.free .any (opsAt c) (mkL (opsAt c).size D) j && (Region.ready .any (opsAt c) (mkL (opsAt c).size D)).contains j && okD c js (j :: D)
theorem okD_sel {c : Code} : ∀ {js D : List Nat}, okD c js D = true → Region.noSelect (opsAt c) = true
  | [], _, h => h
  | _ :: js, _, h => by simp only [okD, Bool.and_eq_true] at h; exact okD_sel (js := js) h.2
def revOn : List Nat → List Nat → List Nat
  | [], D => D
  | j :: js, D => revOn js (j :: D)
theorem opAt_get {c : Code} {k : Nat} (h : hasOp c k = true) : (opsAt c)[k]? = some (opAt c k) := by
  have hlt : k < (opsAt c).toList.length := by have := Nat.le_of_ble_eq_true h; omega
  have : (opsAt c).toList[k]? = some (opAt c k) := by unfold opAt; rw [List.getElem?_eq_getElem hlt]; rfl
  simpa using this
theorem segD_wp {n : Nat} {H : Hints} : ∀ (js : List Nat) (m : Nat) (D : List Nat) (L L' : Sl) (O : Obl) (a : Act), segD P (nth B i) n H js L = some (L', O) → okD (nth B i) js D = true → (∀ w, S w → conj O w) → S w → St n L a →
    (∀ a', St n L' a' → AtD P fn R B K i S m (revOn js D) a' w) → AtD P fn R B K i S (m + js.length) D a w := by
  intro js
  induction js with
  | nil =>
    intro m D L L' O a h _ _ _ hs hk
    simp only [segD, Option.some.injEq, Prod.mk.injEq] at h
    obtain ⟨rfl, rfl⟩ := h
    exact hk a hs
  | cons j js ih =>
    intro m D L L' O a h hok hO hS hs hk
    simp only [segD] at h
    split at h
    · rename_i L1 O1 h1
      split at h
      · rename_i L2 O2 h2
        simp only [Option.some.injEq, Prod.mk.injEq] at h
        obtain ⟨rfl, rfl⟩ := h
        have hsel := okD_sel hok
        simp only [okD, Bool.and_eq_true] at hok
        obtain ⟨⟨⟨⟨g1, g2⟩, g3⟩, g4⟩, g5⟩ := hok
        obtain ⟨d, hd⟩ := Option.isSome_iff_exists.1 g2
        obtain ⟨u, hy, hst⟩ := stp_yields (S := S) hs h1 (fun w hw => (conj_append (hO w hw)).1) hd hS
        have := ih m (j :: D) L1 L2 O2 (a.put (opAt (nth B i) j).dst u) h2 g5 (fun w hw => (conj_append (hO w hw)).2) hS hst hk
        exact wpAnyH_take (opAt_get g1) hsel g3 g4 (fun c a w hq => PQ_cont K c a _ _ w hq) hy hS this
      · cases h
    · cases h
def segDK (P : Program) (c : Code) (n : Nat) (H : Hints) (js : List Nat) (L : Sl) (ts : List Nat) : Option (Sl × (World → Prop)) :=
  match segD P c n H js L with
  | some (L', O) => match pickL L' ts with
    | some L2 => some (L2, conj O)
    | none => none
  | none => none
theorem atD_seg {n m : Nat} {L : Sl} (js D : List Nat) (H : Hints) (ts : List Nat) (L' : Sl) (O : World → Prop) (hs : St n L a) (hS : S w) (he : segDK P (nth B i) n H js L ts = some (L', O)) (hok : okD (nth B i) js D = true) (hO : ∀ w, S w → O w)
    (h : ∀ a', St n L' a' → AtD P fn R B K i S m (revOn js D) a' w) : AtD P fn R B K i S (m + js.length) D a w := by
  unfold segDK at he
  split at he
  · rename_i L1 O1 h1
    split at he
    · rename_i L2 h2
      simp only [Option.some.injEq, Prod.mk.injEq] at he
      obtain ⟨rfl, rfl⟩ := he
      exact segD_wp js m D L L1 O1 a h1 hok hO hS hs fun a' ha' => h a' (ha'.pick h2)
    · cases he
  · cases he
/-- The one operation that may come up now. -/
theorem atD_op {n m j : Nat} {L : Sl} {D : List Nat} (hs : St n L a) (hr : Region.ready .any (opsAt (nth B i)) (mkL (opsAt (nth B i)).size D) = [j]) (hg : goes L (nth B i) j = true)
    (h : (opAt (nth B i) j).upon P a (fun a' w' => S w' ∧ AtD P fn R B K i S m (j :: D) a' w') (cont P fn R B K) ((execOp (envOf L) (opAt (nth B i) j)).run P w)) : AtD P fn R B K i S (m + 1) D a w := by
  refine wpAnyH_all (rs := [j]) hr (by simp) fun k hk => ?_
  obtain rfl : k = j := by simpa using hk
  simp only [goes, Bool.and_eq_true] at hg
  obtain ⟨⟨hk, hok⟩, hwt⟩ := hg
  unfold wpOp
  simp only [opAt_get hk]
  have hw : wantedL (opsAt (nth B i)) L (opAt (nth B i) k) = some true := by
    cases hh : wantedL (opsAt (nth B i)) L (opAt (nth B i) k) with
    | none => simp [hh] at hwt
    | some b => cases b <;> simp [hh] at hwt ⊢
  rw [if_pos (hs.wanted hw)]
  refine .inl ?_
  unfold Oper.wp
  rw [hs.exec _ hok]
  exact h
theorem atD_done {m : Nat} {D : List Nat} (hr : Region.ready .any (opsAt (nth B i)) (mkL (opsAt (nth B i)).size D) = []) (h : cont P fn R B K .normal a w) : AtD P fn R B K i S m D a w :=
  wpAnyH_done hr h m
end

theorem blk_row {w : World} {g : Nat} {t : TypeId} {cs : List Value} (h : Blk w g t cs.toArray) : ∀ j u, cs[j]? = some u → w.cell? ⟨g, 0 + j, none⟩ = some u := fun j u hu => by
  rw [Nat.zero_add]; exact h.cell j (by simpa using hu)
/-- A block of mine is not the row that is appended to: that lies from 'base' on. -/
theorem own_keep {w w' : World} {base e size n : Nat} {v : Value} {xs : List Value} {g : Nat} {t : TypeId} {cs : Array Value} (hg : w.grownBy w' v.ownBlock) (ho : w.ownsRow base e size v n xs) (hb : Blk w g t cs) (h : g < base) : Blk w' g t cs :=
  hb.grown hg (fun e => by have := (ho.lt g e.symm).1; omega)
/-- .. or their types differ. -/
theorem own_keep_t {w w' : World} {base e size n : Nat} {v : Value} {xs : List Value} {g : Nat} {t : TypeId} {cs : Array Value} (hg : w.grownBy w' v.ownBlock) (ho : w.ownsRow base e size v n xs) (hb : Blk w g t cs) (h : e ≠ t) : Blk w' g t cs := by
  refine hb.grown hg (fun he => ?_)
  rcases ho.2 with ⟨rfl, _⟩ | ⟨g', cap, cur, rfl, _, hh, _⟩
  · simp [Value.ownBlock] at he
  · have : g = g' := by simpa [Value.ownBlock] using he
    subst this
    unfold Blk at hb
    rw [hh] at hb
    injection hb with hb
    injection hb with _ ht
    exact h ht
theorem own_upd {w w' : World} {base e size n b : Nat} {v : Value} {xs : List Value} (h : w.ownsRow base e size v n xs) (hu : Upd w w' b) (hb : b < base) : w'.ownsRow base e size v n xs := by
  refine ⟨h.1, ?_⟩
  rcases h.2 with h2 | ⟨g, cap, cur, hv, hg, hh, r⟩
  · exact .inl h2
  · exact .inr ⟨g, cap, cur, hv, hg, (hu.block g (by omega)).trans hh, r⟩
theorem own_upd_t {w w' : World} {base e size n b : Nat} {v : Value} {xs : List Value} {t : TypeId} {cs : Array Value} (h : w.ownsRow base e size v n xs) (hu : Upd w w' b) (hb : Blk w b t cs) (hne : e ≠ t) : w'.ownsRow base e size v n xs := by
  refine ⟨h.1, ?_⟩
  rcases h.2 with h2 | ⟨g, cap, cur, hv, hg, hh, r⟩
  · exact .inl h2
  · refine .inr ⟨g, cap, cur, hv, hg, (hu.block g (fun he => ?_)).trans hh, r⟩
    subst he
    unfold Blk at hb
    rw [hh] at hb
    injection hb with hb
    injection hb with _ ht
    exact hne ht
theorem natOf (k m : Nat) : ((k : Int) + (m : Int)).toNat = k + m := by omega

section
variable {P : Program} {fn : Func} {R : Ending → World → Prop} {B : Code} {K : List KI} {i : Nat} {a : Act} {w : World}
theorem at_loop1 {α : Type} (I : α → Act → World → Prop) (m : α → Nat) (x0 : α) (hc : nth B i = .loop (nth B (i + 1))) (h0 : I x0 a w)
    (round : ∀ x a w, I x a w → At P fn R B (.lp (fun a' w' => ∃ x', I x' a' w' ∧ m x' < m x) :: K) (i + 1) a w) : At P fn R B K i a w := at_loop I m x0 hc h0 round
theorem at_loop2 {α β : Type} (I : α → β → Act → World → Prop) (m : α → β → Nat) (x0 : α) (y0 : β) (hc : nth B i = .loop (nth B (i + 1))) (h0 : I x0 y0 a w)
    (round : ∀ x y a w, I x y a w → At P fn R B (.lp (fun a' w' => ∃ x' y', I x' y' a' w' ∧ m x' y' < m x y) :: K) (i + 1) a w) : At P fn R B K i a w := by
  refine at_loop (fun x : α × β => I x.1 x.2) (fun x => m x.1 x.2) (x0, y0) hc h0 ?_
  rintro ⟨x, y⟩ a w h
  refine Code.wp_mono (fun e a' w' hq => ?_) (round x y a w h)
  cases e with
  | normal => obtain ⟨x', y', h1, h2⟩ := hq; exact ⟨(x', y'), h1, h2⟩
  | _ => exact hq
theorem at_loop3 {α β γ : Type} (I : α → β → γ → Act → World → Prop) (m : α → β → γ → Nat) (x0 : α) (y0 : β) (z0 : γ) (hc : nth B i = .loop (nth B (i + 1))) (h0 : I x0 y0 z0 a w)
    (round : ∀ x y z a w, I x y z a w → At P fn R B (.lp (fun a' w' => ∃ x' y' z', I x' y' z' a' w' ∧ m x' y' z' < m x y z) :: K) (i + 1) a w) : At P fn R B K i a w := by
  refine at_loop (fun x : α × β × γ => I x.1 x.2.1 x.2.2) (fun x => m x.1 x.2.1 x.2.2) (x0, y0, z0) hc h0 ?_
  rintro ⟨x, y, z⟩ a w h
  refine Code.wp_mono (fun e a' w' hq => ?_) (round x y z a w h)
  cases e with
  | normal => obtain ⟨x', y', z', h1, h2⟩ := hq; exact ⟨(x', y', z'), h1, h2⟩
  | _ => exact hq
theorem at_loop4 {α β γ δ : Type} (I : α → β → γ → δ → Act → World → Prop) (m : α → β → γ → δ → Nat) (x0 : α) (y0 : β) (z0 : γ) (u0 : δ) (hc : nth B i = .loop (nth B (i + 1))) (h0 : I x0 y0 z0 u0 a w)
    (round : ∀ x y z u a w, I x y z u a w → At P fn R B (.lp (fun a' w' => ∃ x' y' z' u', I x' y' z' u' a' w' ∧ m x' y' z' u' < m x y z u) :: K) (i + 1) a w) : At P fn R B K i a w := by
  refine at_loop (fun x : α × β × γ × δ => I x.1 x.2.1 x.2.2.1 x.2.2.2) (fun x => m x.1 x.2.1 x.2.2.1 x.2.2.2) (x0, y0, z0, u0) hc h0 ?_
  rintro ⟨x, y, z, u⟩ a w h
  refine Code.wp_mono (fun e a' w' hq => ?_) (round x y z u a w h)
  cases e with
  | normal => obtain ⟨x', y', z', u', h1, h2⟩ := hq; exact ⟨(x', y', z', u'), h1, h2⟩
  | _ => exact hq
end
theorem own_blk {w : World} {g t base size m : Nat} {cs : List Value} (hb : Blk w g t cs.toArray) (h : base ≤ g) (hl : cs.length = m * size) (hm : m ≤ maxLen) : w.ownsRow base t size (.slice (some ⟨g, 0, none⟩) m m) m cs :=
  ⟨hl, .inr ⟨g, m, cs.toArray, rfl, h, hb, Nat.le_refl _, hm, by simpa using hl, by simp [← hl]⟩⟩
end Go.Proofs.YtcaiedfkohigjaaGreat
/- Pure data: what memory reads as; the values of the pure machine. -/
namespace Go.Proofs.YtcaiedfkohigjaaGreat
open Go.RowKit

inductive Ty where
  | int (k : IntKind)
  | bool
  | str
  | sl (e : Ty)
  | pair (a b : Ty)
  | st (a : Ty)
@[reducible] def Ty.D : Ty → Type
  | .int _ => Int
  | .bool => Bool
  | .str => ByteArray
  | .sl e => List e.D
  | .pair a b => a.D × b.D
  | .st a => a.D
/-- The number of cells. -/
def Ty.n : Ty → Nat
  | .pair a b => a.n + b.n
  | .st a => a.n
  | _ => 1

def all2 {α β : Type} (R : α → β → Prop) : List α → List β → Prop
  | [], [] => True
  | a :: l, b :: m => R a b ∧ all2 R l m
  | _, _ => False
theorem all2_mono {α β : Type} {R S : α → β → Prop} (h : ∀ a b, R a b → S a b) : ∀ {l : List α} {m : List β}, all2 R l m → all2 S l m
  | [], [], _ => trivial
  | _ :: _, _ :: _, ⟨h1, h2⟩ => ⟨h _ _ h1, all2_mono h h2⟩
theorem all2_len {α β : Type} {R : α → β → Prop} : ∀ {l : List α} {m : List β}, all2 R l m → l.length = m.length
  | [], [], _ => rfl
  | _ :: _, _ :: _, ⟨_, h2⟩ => by simp [all2_len h2]
theorem all2_get {α β : Type} {R : α → β → Prop} : ∀ {l : List α} {m : List β}, all2 R l m → ∀ (i : Nat) (b : β), m[i]? = some b → ∃ a, l[i]? = some a ∧ R a b
  | [], [], _, i, b, h => by simp at h
  | a :: l, b' :: m, ⟨h1, h2⟩, 0, b, h => by simp at h; subst h; exact ⟨a, rfl, h1⟩
  | a :: l, b' :: m, ⟨h1, h2⟩, i + 1, b, h => by simp at h; obtain ⟨x, hx, hr⟩ := all2_get h2 i b h; exact ⟨x, by simpa using hx, hr⟩
theorem all2_getL {α β : Type} {R : α → β → Prop} : ∀ {l : List α} {m : List β}, all2 R l m → ∀ (i : Nat) (a : α), l[i]? = some a → ∃ b, m[i]? = some b ∧ R a b
  | [], [], _, i, b, h => by simp at h
  | a :: l, b' :: m, ⟨h1, h2⟩, 0, b, h => by simp at h; subst h; exact ⟨b', rfl, h1⟩
  | a :: l, b' :: m, ⟨h1, h2⟩, i + 1, b, h => by simp at h; obtain ⟨x, hx, hr⟩ := all2_getL h2 i b h; exact ⟨x, by simpa using hx, hr⟩
theorem all2_append {α β : Type} {R : α → β → Prop} : ∀ {l : List α} {m : List β} {l' : List α} {m' : List β}, all2 R l m → all2 R l' m' → all2 R (l ++ l') (m ++ m')
  | [], [], _, _, _, h => h
  | _ :: _, _ :: _, _, _, ⟨h1, h2⟩, h => ⟨h1, all2_append h2 h⟩
theorem all2_take {α β : Type} {R : α → β → Prop} : ∀ {l : List α} {m : List β} (k : Nat), all2 R l m → all2 R (l.take k) (m.take k)
  | [], [], k, _ => by simp [all2]
  | _ :: _, _ :: _, 0, _ => by simp [all2]
  | _ :: _, _ :: _, k + 1, ⟨h1, h2⟩ => by simp only [List.take_succ_cons]; exact ⟨h1, all2_take k h2⟩
theorem all2_drop {α β : Type} {R : α → β → Prop} : ∀ {l : List α} {m : List β} (k : Nat), all2 R l m → all2 R (l.drop k) (m.drop k)
  | [], [], k, _ => by simp [all2]
  | _ :: _, _ :: _, 0, h => h
  | _ :: _, _ :: _, k + 1, ⟨h1, h2⟩ => by simp only [List.drop_succ_cons]; exact all2_drop k h2
theorem all2_set {α β : Type} {R : α → β → Prop} : ∀ {l : List α} {m : List β} (k : Nat) {a : α} {b : β}, all2 R l m → R a b → all2 R (l.set k a) (m.set k b)
  | [], [], k, _, _, _, _ => by simp [all2]
  | _ :: _, _ :: _, 0, _, _, ⟨_, h2⟩, h => ⟨h, h2⟩
  | _ :: _, _ :: _, k + 1, _, _, ⟨h1, h2⟩, h => ⟨h1, all2_set k h2 h⟩
theorem all2_of {α β : Type} {R : α → β → Prop} : ∀ {l : List α} {m : List β}, l.length = m.length → (∀ (i : Nat) (a : α) (b : β), l[i]? = some a → m[i]? = some b → R a b) → all2 R l m
  | [], [], _, _ => trivial
  | a :: l, b :: m, hl, h => ⟨h 0 a b rfl rfl, all2_of (by simpa using hl) (fun i a b h1 h2 => h (i + 1) a b (by simpa using h1) (by simpa using h2))⟩
  | [], _ :: _, hl, _ => by simp at hl
  | _ :: _, [], hl, _ => by simp at hl

/-- Cells from an address on. -/
def cellsAt (w : World) (b off : Nat) (cs : List Value) : Prop := ∀ i v, cs[i]? = some v → w.cell? ⟨b, off + i, none⟩ = some v

/-- In w the cells cs read as x; whatever lies behind them lies in blocks of A. -/
def Ty.rd (A : Nat → Prop) (w : World) : (t : Ty) → List Value → t.D → Prop
  | .int k, cs, x => cs = [.int k x]
  | .bool, cs, x => cs = [.bool x]
  | .str, cs, x => cs = [.string x]
  | .pair a b, cs, x => ∃ l1 l2, cs = l1 ++ l2 ∧ a.rd A w l1 x.1 ∧ b.rd A w l2 x.2
  | .st a, cs, x => a.rd A w cs x
  | .sl e, cs, x => ∃ p n c css, cs = [.slice p n c] ∧ x.length = n ∧ n ≤ c ∧ c ≤ maxLen ∧ all2 (fun l y => e.rd A w l y) css x ∧
      (0 < n → ∃ b off, p = some ⟨b, off, none⟩ ∧ A b ∧ b < w.heap.size ∧ cellsAt w b off css.flatten)

theorem Ty.rd_len {A : Nat → Prop} {w : World} : ∀ {t : Ty} {cs : List Value} {x : t.D}, t.rd A w cs x → cs.length = t.n
  | .int _, _, _, h => by simp only [Ty.rd] at h; subst h; rfl
  | .bool, _, _, h => by simp only [Ty.rd] at h; subst h; rfl
  | .str, _, _, h => by simp only [Ty.rd] at h; subst h; rfl
  | .pair a b, _, _, h => by
    obtain ⟨l1, l2, rfl, h1, h2⟩ := h
    simp [Ty.n, Ty.rd_len h1, Ty.rd_len h2]
  | .st a, _, _, h => Ty.rd_len (t := a) h
  | .sl e, _, _, h => by obtain ⟨p, n, c, css, rfl, _⟩ := h; rfl

/-- Nothing that is read has turned. -/
structure Keeps (A A' : Nat → Prop) (w w' : World) : Prop where
  size : w.heap.size ≤ w'.heap.size
  sub : ∀ b, b < w.heap.size → A b → A' b
  block : ∀ b, b < w.heap.size → A b → w'.heap[b]? = w.heap[b]?
theorem Keeps.cells {A A' : Nat → Prop} {w w' : World} (h : Keeps A A' w w') {b off : Nat} {cs : List Value} (hb : b < w.heap.size) (hA : A b) (hc : cellsAt w b off cs) : cellsAt w' b off cs :=
  fun i v hv => (World.cell?_of_block (a := ⟨b, off + i, none⟩) (h.block b hb hA)).trans (hc i v hv)
theorem Ty.rd_keep {A A' : Nat → Prop} {w w' : World} (hk : Keeps A A' w w') : ∀ {t : Ty} {cs : List Value} {x : t.D}, t.rd A w cs x → t.rd A' w' cs x
  | .int _, _, _, h => h
  | .bool, _, _, h => h
  | .str, _, _, h => h
  | .pair _ _, _, _, ⟨l1, l2, h0, h1, h2⟩ => ⟨l1, l2, h0, Ty.rd_keep hk h1, Ty.rd_keep hk h2⟩
  | .st a, _, _, h => Ty.rd_keep (t := a) hk h
  | .sl e, _, _, ⟨p, n, c, css, h0, h1, h2, h3, h4, h5⟩ => ⟨p, n, c, css, h0, h1, h2, h3, all2_mono (fun _ _ h => Ty.rd_keep hk h) h4, fun hn => by
      obtain ⟨b, off, g1, g2, g3, g4⟩ := h5 hn
      exact ⟨b, off, g1, hk.sub b g3 g2, Nat.lt_of_lt_of_le g3 hk.size, hk.cells g3 g2 g4⟩⟩

/-- A datum's value: a struct is one value of many cells. -/
def Ty.isSt : Ty → Bool
  | .st _ => true
  | _ => false
def mkV (t : Ty) (cs : List Value) : Value := match t.isSt with
  | true => .agg cs.toArray
  | false => cs.headD undef

inductive SV where
  | d (t : Ty) (x : t.D)
  | nil
  | box (j off : Nat)
  | elt (e : Ty) (x : e.D) (off : Nat)
  | own (j : Nat)
  | oelt (j sz i off : Nat)
  | clo (f : Nat) (caps : List Nat)
  | tup (l : List SV)
  | undef
  | dead
  | cut (e : Ty) (xs : List e.D)
  | osl (j sz lo n : Nat)
abbrev SI (x : Int) : SV := .d (.int .i64) x
abbrev SB (b : Bool) : SV := .d .bool b

/-- What the call owns: variables, rows that it makes. -/
inductive Item where
  | box (t : TypeId) (cells : List SV)
  | row (et : TypeId) (e : Ty) (xs : List e.D)
  | gone
def blkOf : Value → Option Nat
  | .pointer (some a) => some a.block
  | .slice (some a) _ _ => some a.block
  | _ => none

/-- The relation of a machine's value to a pure one; G: the owned things' own addresses. -/
def Rel1 (G : List Value) (A : Nat → Prop) (w : World) : SV → Value → Prop
  | .d t x, v => ∃ cs, t.rd A w cs x ∧ v = mkV t cs
  | .nil, v => v = .slice none 0 0
  | .box j off, v => ∃ b, G[j]? = some (.pointer (some ⟨b, 0, none⟩)) ∧ v = .pointer (some ⟨b, off, none⟩)
  | .elt e x off, v => ∃ b o cs, v = .pointer (some ⟨b, o + off, none⟩) ∧ A b ∧ b < w.heap.size ∧ e.rd A w cs x ∧ cellsAt w b o cs
  | .own j, v => G[j]? = some v
  | .oelt j sz i off, v => ∃ b n c, G[j]? = some (.slice (some ⟨b, 0, none⟩) n c) ∧ v = .pointer (some ⟨b, i * sz + off, none⟩)
  | .clo f caps, v => ∃ bs : List Nat, all2 (fun j b => G[j]? = some (.pointer (some ⟨b, 0, none⟩))) caps bs ∧ v = .func (.func f) #[] (bs.map fun b => .pointer (some ⟨b, 0, none⟩)).toArray
  | .tup _, _ => False
  | .undef, v => v = Go.undef
  | .dead, _ => True
  | .cut e xs, v => ∃ p, (Ty.sl e).rd A w [.slice p xs.length xs.length] xs ∧ v = .slice p xs.length xs.length
  | .osl j sz lo n, v => ∃ g q c, G[j]? = some g ∧ v = .slice q n c ∧ n ≤ c ∧ c ≤ maxLen ∧ (0 < n → ∃ b N c', g = .slice (some ⟨b, 0, none⟩) N c' ∧ lo + n ≤ N ∧ q = some ⟨b, lo * sz, none⟩)
def Rel (G : List Value) (A : Nat → Prop) (w : World) : SV → Value → Prop
  | .tup l, v => ∃ vs : List Value, v = .tuple vs.toArray ∧ all2 (Rel1 G A w) l vs
  | s, v => Rel1 G A w s v

/-- Does a value speak of item j, so that it is stale once j turns? -/
def SV.of1 (j : Nat) : SV → Bool
  | .own i => Nat.beq i j
  | .oelt i _ _ _ => Nat.beq i j
  | .osl i _ _ _ => Nat.beq i j
  | _ => false
theorem Rel1.keep {G G' : List Value} {A A' : Nat → Prop} {w w' : World} (hk : Keeps A A' w w') {s : SV} {v : Value} (h : Rel1 G A w s v)
    (hG : ∀ j g, s.of1 j = true ∨ (∃ a, g = .pointer a) → G[j]? = some g → G'[j]? = some g) : Rel1 G' A' w' s v := by
  cases s with
  | d t x => obtain ⟨cs, h1, h2⟩ := h; exact ⟨cs, Ty.rd_keep hk h1, h2⟩
  | nil => exact h
  | box j off => obtain ⟨b, h1, h2⟩ := h; exact ⟨b, hG j _ (.inr ⟨_, rfl⟩) h1, h2⟩
  | elt e x off =>
    obtain ⟨b, o, cs, h1, h2, h3, h4, h5⟩ := h
    exact ⟨b, o, cs, h1, hk.sub b h3 h2, Nat.lt_of_lt_of_le h3 hk.size, Ty.rd_keep hk h4, hk.cells h3 h2 h5⟩
  | own j => exact hG j v (.inl (by simp [SV.of1])) h
  | oelt j sz i off => obtain ⟨b, n, c, h1, h2⟩ := h; exact ⟨b, n, c, hG j _ (.inl (by simp [SV.of1])) h1, h2⟩
  | clo f caps => obtain ⟨bs, h1, h2⟩ := h; exact ⟨bs, all2_mono (fun j b hjb => hG j _ (.inr ⟨_, rfl⟩) hjb) h1, h2⟩
  | tup l => exact h.elim
  | undef => exact h
  | dead => trivial
  | cut e xs => obtain ⟨p, h1, h2⟩ := h; exact ⟨p, Ty.rd_keep hk h1, h2⟩
  | osl j sz lo n => obtain ⟨g, q, c, h1, h2⟩ := h; exact ⟨g, q, c, hG j _ (.inl (by simp [SV.of1])) h1, h2⟩
end Go.Proofs.YtcaiedfkohigjaaGreat
/- The pure machine's state, and how it goes along with the world. -/
namespace Go.Proofs.YtcaiedfkohigjaaGreat
open Go.RowKit

abbrev SL := List (Nat × SV)
def lookS : SL → Nat → Option SV
  | [], _ => none
  | (k, x) :: r, t => match Nat.beq k t with
    | true => some x
    | false => lookS r t
def Item.live : Item → Bool
  | .gone => false
  | _ => true
/-- Blocks that are read and never written: those of no living item. -/
def Av (Z : Nat → Prop) (H : List Item) (G : List Value) (b : Nat) : Prop := Z b ∧ ∀ (j : Nat) it g, H[j]? = some it → it.live = true → G[j]? = some g → blkOf g ≠ some b
def ItemRel (base : Nat) (G : List Value) (A : Nat → Prop) (w : World) : Item → Value → Prop
  | .box t cells, g => ∃ b vs, g = .pointer (some ⟨b, 0, none⟩) ∧ base ≤ b ∧ Blk w b t (List.toArray vs) ∧ all2 (Rel1 G A w) cells vs
  | .row et e xs, g => ∃ css, w.ownsRow base et e.n g xs.length (List.flatten css) ∧ all2 (fun l y => e.rd A w l y) css xs ∧ 0 < e.n
  | .gone, _ => True
structure SR (Z : Nat → Prop) (w0 : World) (H : List Item) (G : List Value) (w : World) : Prop where
  len : G.length = H.length
  below : Below w0.heap.size w0 w
  items : ∀ (j : Nat) it g, H[j]? = some it → G[j]? = some g → ItemRel w0.heap.size G (Av Z H G) w it g
  disj : ∀ (i j : Nat) it jt g h b, i ≠ j → H[i]? = some it → H[j]? = some jt → it.live = true → jt.live = true → G[i]? = some g → G[j]? = some h → blkOf g = some b → blkOf h ≠ some b
  zf : ∀ b, w0.heap.size ≤ b → Z b

theorem ItemRel.blk {base : Nat} {G : List Value} {A : Nat → Prop} {w : World} {it : Item} {g : Value} {b : Nat} (h : ItemRel base G A w it g) (hl : it.live = true) (hb : blkOf g = some b) : base ≤ b ∧ b < w.heap.size := by
  cases it with
  | box t cells =>
    obtain ⟨b', vs, rfl, h1, h2, _⟩ := h
    simp only [blkOf, Option.some.injEq] at hb
    subst hb
    exact ⟨h1, h2.lt⟩
  | row et e xs =>
    obtain ⟨css, h1, _⟩ := h
    have : g.ownBlock = some b := by
      rcases h1.2 with ⟨rfl, _⟩ | ⟨g', cap, cur, rfl, _⟩
      · simp [blkOf] at hb
      · simpa [blkOf, Value.ownBlock] using hb
    exact h1.lt b this
  | gone => simp [Item.live] at hl

/-- s' says no more than s, whatever becomes of item j. -/
def Wk (j : Nat) (same : Prop) (s s' : SV) : Prop := s' = .dead ∨ (s' = s ∧ (s.of1 j = true → same))
def WkI (j : Nat) (same : Prop) : Item → Item → Prop
  | .box t cs, .box t' cs' => t = t' ∧ all2 (Wk j same) cs cs'
  | .row et e xs, it' => it' = .row et e xs
  | .gone, it' => it' = .gone
  | _, _ => False
theorem WkI.live {j : Nat} {same : Prop} {it it' : Item} (h : WkI j same it it') : it'.live = it.live := by
  cases it <;> cases it' <;> simp_all [WkI, Item.live]

/-- A step of the world: item j turns (or is new), all else stays. -/
structure Step (w0 : World) (j : Nat) (same : Prop) (H H' : List Item) (G G' : List Value) (w w' : World) : Prop where
  len : G'.length = H'.length
  below : Below w0.heap.size w0 w'
  size : w.heap.size ≤ w'.heap.size
  block : ∀ b, b < w.heap.size → (∀ it g, H[j]? = some it → it.live = true → G[j]? = some g → blkOf g ≠ some b) → w'.heap[b]? = w.heap[b]?
  head : ∀ (i : Nat) g, i ≠ j → G[i]? = some g → G'[i]? = some g
  item : ∀ (i : Nat) it', i ≠ j → H'[i]? = some it' → ∃ it, H[i]? = some it ∧ WkI j same it it'
  new : ∀ it' g' b, H'[j]? = some it' → it'.live = true → G'[j]? = some g' → blkOf g' = some b → (∃ it g, H[j]? = some it ∧ it.live = true ∧ G[j]? = some g ∧ blkOf g = some b) ∨ w.heap.size ≤ b
  fit : same → ∀ g, G[j]? = some g → G'[j]? = some g
  ptr : ∀ a, G[j]? = some (.pointer a) → G'[j]? = some (.pointer a)
section
variable {Z : Nat → Prop} {w0 : World} {j : Nat} {same : Prop} {H H' : List Item} {G G' : List Value} {w w' : World}
theorem Step.keeps (hs : Step w0 j same H H' G G' w w') (hr : SR Z w0 H G w) : Keeps (Av Z H G) (Av Z H' G') w w' := by
  refine ⟨hs.size, fun b hb hA => ⟨hA.1, fun i it' g' hi hl hg hbk => ?_⟩, fun b hb hA => hs.block b hb fun it g h1 h2 h3 => hA.2 j it g h1 h2 h3⟩
  by_cases hij : i = j
  · subst hij
    rcases hs.new it' g' b hi hl hg hbk with ⟨it, g, h1, h2, h3, h4⟩ | h1
    · exact hA.2 i it g h1 h2 h3 h4
    · omega
  · obtain ⟨it, h1, h2⟩ := hs.item i it' hij hi
    have hlt : i < G.length := by rw [hr.len]; exact (List.getElem?_eq_some_iff.1 h1).1
    have h3 : G[i]? = some G[i] := List.getElem?_eq_getElem hlt
    have h4 := hs.head i _ hij h3
    rw [h4] at hg
    injection hg with hg
    subst hg
    exact hA.2 i it _ h1 (h2.live ▸ hl) h3 hbk
theorem Step.rel1 (hs : Step w0 j same H H' G G' w w') (hr : SR Z w0 H G w) {s s' : SV} {v : Value} (h : Rel1 G (Av Z H G) w s v) (hw : Wk j same s s') : Rel1 G' (Av Z H' G') w' s' v := by
  rcases hw with rfl | ⟨rfl, hs1⟩
  · trivial
  · refine h.keep (hs.keeps hr) fun i g hi hg => ?_
    by_cases hij : i = j
    · subst hij
      rcases hi with hi | ⟨a, rfl⟩
      · exact hs.fit (hs1 hi) g hg
      · exact hs.ptr a hg
    · exact hs.head i g hij hg
theorem all2_rel {R S : SV → Value → Prop} {Q : SV → SV → Prop} (h : ∀ s s' v, R s v → Q s s' → S s' v) : ∀ {l l' : List SV} {vs : List Value}, all2 R l vs → all2 Q l l' → all2 S l' vs
  | [], [], [], _, _ => trivial
  | _ :: _, _ :: _, _ :: _, ⟨h1, h2⟩, ⟨g1, g2⟩ => ⟨h _ _ _ h1 g1, all2_rel h h2 g2⟩
theorem Step.sr (hs : Step w0 j same H H' G G' w w') (hr : SR Z w0 H G w) (hj : ∀ it' g', H'[j]? = some it' → G'[j]? = some g' → ItemRel w0.heap.size G' (Av Z H' G') w' it' g') : SR Z w0 H' G' w' := by
  have old : ∀ (i : Nat) it' g', i ≠ j → H'[i]? = some it' → G'[i]? = some g' → ∃ it, H[i]? = some it ∧ WkI j same it it' ∧ G[i]? = some g' := by
    intro i it' g' hij h1 h2
    obtain ⟨it, h3, h4⟩ := hs.item i it' hij h1
    have hlt : i < G.length := by rw [hr.len]; exact (List.getElem?_eq_some_iff.1 h3).1
    have h5 : G[i]? = some G[i] := List.getElem?_eq_getElem hlt
    have h6 := hs.head i _ hij h5
    rw [h6] at h2
    injection h2 with h2
    exact ⟨it, h3, h4, h2 ▸ h5⟩
  have apart : ∀ (i : Nat) it' g' b, i ≠ j → H'[i]? = some it' → it'.live = true → G'[i]? = some g' → blkOf g' = some b → b < w.heap.size ∧ (∀ it g, H[j]? = some it → it.live = true → G[j]? = some g → blkOf g ≠ some b) := by
    intro i it' g' b hij h1 h2 h3 h4
    obtain ⟨it, g1, g2, g3⟩ := old i it' g' hij h1 h3
    have hl : it.live = true := by rw [← g2.live]; exact h2
    exact ⟨((hr.items i it g' g1 g3).blk hl h4).2, fun jt g k1 k2 k3 => hr.disj i j it jt g' g b hij g1 k1 hl k2 g3 k3 h4⟩
  refine ⟨hs.len, hs.below, ?_, ?_, hr.zf⟩
  · intro i it' g' h1 h2
    by_cases hij : i = j
    · subst hij; exact hj it' g' h1 h2
    · obtain ⟨it, h3, h4, h5⟩ := old i it' g' hij h1 h2
      have hi := hr.items i it g' h3 h5
      cases it with
      | gone => simp only [WkI] at h4; subst h4; trivial
      | box t cs =>
        cases it' with
        | box t' cs' =>
          obtain ⟨rfl, h6⟩ := h4
          obtain ⟨b, vs, rfl, k1, k2, k3⟩ := hi
          obtain ⟨a1, a2⟩ := apart i _ _ b hij h1 rfl h2 rfl
          exact ⟨b, vs, rfl, k1, (hs.block b a1 a2).trans k2, all2_rel (S := Rel1 G' (Av Z H' G') w') (Q := Wk j same) (fun s s' v hR hQ => hs.rel1 hr hR hQ) k3 h6⟩
        | row => simp [WkI] at h4
        | gone => simp [WkI] at h4
      | row et e xs =>
        simp only [WkI] at h4
        subst h4
        obtain ⟨css, k1, k2, k3⟩ := hi
        refine ⟨css, ⟨k1.1, ?_⟩, all2_mono (fun _ _ h => Ty.rd_keep (hs.keeps hr) h) k2, k3⟩
        rcases k1.2 with h6 | ⟨g, cap, cur, rfl, h8, h9, r⟩
        · exact .inl h6
        · obtain ⟨a1, a2⟩ := apart i _ _ g hij h1 rfl h2 rfl
          exact .inr ⟨g, cap, cur, rfl, h8, (hs.block g a1 a2).trans h9, r⟩
  · intro i k it kt g h b hik h1 h2 h3 h4 h5 h6 h7
    have key : ∀ (k : Nat) it g kt h b, k ≠ j → H'[j]? = some it → it.live = true → G'[j]? = some g → H'[k]? = some kt → kt.live = true → G'[k]? = some h → blkOf g = some b → blkOf h = some b → False := by
      intro k it g kt h b hkj h1 h3 h5 h2 h4 h6 h7 h8
      obtain ⟨a1, a2⟩ := apart k kt h b hkj h2 h4 h6 h8
      rcases hs.new it g b h1 h3 h5 h7 with ⟨it0, g0, c1, c2, c3, c4⟩ | c
      · exact a2 it0 g0 c1 c2 c3 c4
      · omega
    intro h8
    by_cases hij : i = j
    · subst hij; exact key k it g kt h b (Ne.symm hik) h1 h3 h5 h2 h4 h6 h7 h8
    · by_cases hkj : k = j
      · subst hkj; exact key i kt h it g b hij h2 h4 h6 h1 h3 h5 h8 h7
      · obtain ⟨it0, a1, a2, a3⟩ := old i it g hij h1 h5
        obtain ⟨kt0, b1, b2, b3⟩ := old k kt h hkj h2 h6
        exact hr.disj i k it0 kt0 g h b hik a1 b1 (a2.live ▸ h3) (b2.live ▸ h4) a3 b3 h7 h8
end
end Go.Proofs.YtcaiedfkohigjaaGreat

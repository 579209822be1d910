/- The engine: new blocks, stores, calls, loops, the function's beginning and end. -/
import Derived.Test.YtpiabmjipgfjjaaDoorEng2
namespace Go.Proofs.YtpiabmjipgfjjaaDoor
open Go.RowKit

/-- A tree that only looks into the program. -/
def evP (P : Program) : Sem Next → Option Next
  | .pure n => some n
  | .program k => evP P (k P)
  | _ => none
theorem evP_run {P : Program} {w : World} : ∀ (t : Sem Next) (n : Next), evP P t = some n → t.run P w = .ok n w := by
  intro t
  induction t with
  | pure m => intro n h; simp [evP] at h; rw [h]; rfl
  | program k ih => intro n h; exact ih P n h
  | _ => intro n h; simp [evP] at h
def evN (P : Program) (r : Nat) : Sem Next → Option (Obj × Next)
  | .program k => evN P r (k P)
  | .new o k => match evP P (k r) with
    | some n => some (o, n)
    | none => none
  | _ => none
theorem evN_run {P : Program} {w : World} : ∀ (t : Sem Next) (o : Obj) (n : Next), evN P w.heap.size t = some (o, n) → t.run P w = .ok n (w.alloc o) := by
  intro t
  induction t with
  | program k ih => intro o n h; exact ih P o n h
  | new o' k ih =>
    intro o n h
    simp only [evN] at h
    split at h
    · rename_i m hm
      simp only [Option.some.injEq, Prod.mk.injEq] at h
      obtain ⟨rfl, rfl⟩ := h
      exact evP_run (w := w.alloc o') _ _ hm
    · cases h
  | _ => intro o n h; simp [evN] at h

def opAt (c : Code) (k : Nat) : Oper := ((opsAt c).toList[k]?).getD default
def hasOp (c : Code) (k : Nat) : Bool := Nat.ble (k + 1) (opsAt c).toList.length
def putK (n : Nat) (L : Sl) (d : Option Nat) (v : Value) (ts : List Nat) : Option Sl :=
  match putL n L d v with
  | some L' => pickL L' ts
  | none => none
theorem St.putK_ {n : Nat} {L L' : Sl} {a : Act} {d : Option Nat} {v : Value} {ts : List Nat} (h : St n L a) (hp : putK n L d v ts = some L') : St n L' (a.put d v) := by
  unfold putK at hp
  split at hp
  · rename_i L1 h1
    exact (h.put h1).pick hp
  · cases hp
/-- Operation k of a region is there, its guard is met, its operands are known. -/
def goes (L : Sl) (c : Code) (k : Nat) : Bool := hasOp c k && opsOk L (opAt c k).op && (match wantedL (opsAt c) L (opAt c k) with | some true => true | _ => false)

section
variable {P : Program} {fn : Func} {R : Ending → World → Prop} {B : Code} {K K' : List KI} {i : Nat} {a : Act} {w : World}

theorem atR_op {n k : Nat} {L : Sl} (hs : St n L a) (hg : goes L (nth B i) k = true)
    (h : (opAt (nth B i) k).upon P a (fun a' w' => AtR P fn R B K i (k + 1) a' w') (cont P fn R B K) ((execOp (envOf L) (opAt (nth B i) k)).run P w)) : AtR P fn R B K i k a w := by
  simp only [goes, Bool.and_eq_true] at hg
  obtain ⟨⟨hk, hok⟩, hwt⟩ := hg
  have hlt : k < (opsAt (nth B i)).toList.length := by have := Nat.le_of_ble_eq_true hk; omega
  have ho : opAt (nth B i) k = (opsAt (nth B i)).toList[k] := by unfold opAt; rw [List.getElem?_eq_getElem hlt]; rfl
  generalize hoo : opAt (nth B i) k = o at *
  unfold AtR
  have : (opsAt (nth B i)).toList.drop k = o :: (opsAt (nth B i)).toList.drop (k + 1) := by
    rw [ho]; exact List.drop_eq_getElem_cons hlt
  rw [this]
  unfold wpList
  have hw : wantedL (opsAt (nth B i)) L o = some true := by
    cases hh : wantedL (opsAt (nth B i)) L o with
    | none => simp [hh] at hwt
    | some b => cases b <;> simp [hh] at hwt ⊢
  rw [if_pos (hs.wanted hw)]
  refine .inl ?_
  unfold Oper.wp
  rw [hs.exec o hok]
  exact h

/-- What a new block does to the world. -/
structure New (w w' : World) (r : Nat) (t : TypeId) (cs : Array Value) : Prop where
  blk : Blk w' r t cs
  at_ : r = w.heap.size
  size : w'.heap.size = w.heap.size + 1
  below : Below w.heap.size w w'
theorem New.mk_ (w : World) (t : TypeId) (cs : Array Value) : New w (w.alloc (.cells cs t)) w.heap.size t cs := ⟨Blk.new _ _ _, rfl, by simp, (Below.refl _ _).alloc (Nat.le_refl _) _⟩

/-- A box, a new variable, a slice literal: F r is the value, r the new block. -/
theorem new1 {N : Act → World → Prop} {Q : Exit → Act → World → Prop} {o : Oper} {n : Nat} {L : Sl} {t : TypeId} {cs : Array Value} (F : Nat → Value) (ts : List Nat) (L' : Nat → Sl) (hs : St n L a)
    (he : ∀ r, evN P r (execOp (envOf L) o) = some (.cells cs t (0, 0), .value (F r))) (hp : ∀ r, putK n L o.dst (F r) ts = some (L' r))
    (h : ∀ a' w' r, New w w' r t cs → St n (L' r) a' → N a' w') : o.upon P a N Q ((execOp (envOf L) o).run P w) := by
  rw [evN_run _ _ _ (he w.heap.size)]
  exact h _ _ _ (New.mk_ w t cs) (hs.putK_ (hp _))

/-- A call: its function, its arguments. -/
theorem call1 {N : Act → World → Prop} {Q : Exit → Act → World → Prop} {o : Oper} {n f : Nat} {L : Sl} {args : Array Value} (ts : List Nat) (L' : Value → Sl) (hs : St n L a)
    (he : evP P (execOp (envOf L) o) = some (.enter f args)) (hp : ∀ v, putK n L o.dst v ts = some (L' v))
    (h : Calls P f args w fun e w' => ∃ v, e = .returned v ∧ ∀ a', St n (L' v) a' → N a' w') : o.upon P a N Q ((execOp (envOf L) o).run P w) := by
  rw [evP_run _ _ he]
  refine Calls.mono h fun e w' ⟨v, hv, hk⟩ => ?_
  subst hv
  exact hk _ (hs.putK_ (hp v))

/-- Stores, one after another. -/
def evS (P : Program) : Sem Next → Option (List (Addr × Value))
  | .program k => evS P (k P)
  | .store .plain a v k => match evS P k with
    | some l => some ((a, v) :: l)
    | none => none
  | .pure .skip => some []
  | _ => none
def cellVal : Value → Prop
  | .agg _ => False
  | .tuple _ => False
  | _ => True
def setAll : World → List (Addr × Value) → World
  | w, [] => w
  | w, (a, v) :: l => setAll (w.setCell a v) l
def canAll : World → List (Addr × Value) → Prop
  | _, [] => True
  | w, (a, v) :: l => cellVal v ∧ (∃ u, w.cell? a = some u) ∧ w.frozen? a = false ∧ canAll (w.setCell a v) l
theorem evS_run {P : Program} : ∀ (t : Sem Next) (l : List (Addr × Value)) (w : World), evS P t = some l → canAll w l → t.run P w = .ok .skip (setAll w l) := by
  intro t
  induction t with
  | program k ih => intro l w h hc; exact ih P l w h hc
  | pure m =>
    intro l w h hc
    cases m <;> simp [evS] at h
    subst h; rfl
  | store m ad v k ih =>
    intro l w h hc
    cases m with
    | atomic => simp [evS] at h
    | plain =>
      simp only [evS] at h
      split at h
      · rename_i l' hl
        injection h with h
        subst h
        obtain ⟨h1, ⟨u, hu⟩, h2, h3⟩ := hc
        have := ih l' _ hl h3
        cases v <;> first | exact h1.elim | (simp only [Sem.run, hu, h2]; exact this)
      · cases h
  | _ => intro l w h; simp [evS] at h

/-- The stores go to one block: what it holds behind them. -/
structure Upd (w w' : World) (b : Nat) : Prop where
  os : w'.os = w.os
  tape : w'.tape = w.tape
  output : w'.output = w.output
  size : w'.heap.size = w.heap.size
  block : ∀ k, k ≠ b → w'.heap[k]? = w.heap[k]?
theorem Upd.below {w w' : World} {b B : Nat} (h : Upd w w' b) (hb : B ≤ b) : Below B w w' := ⟨h.os, h.tape, h.output, by rw [h.size]; exact Nat.le_refl _, fun k hk => h.block k (by omega)⟩
theorem Upd.blk {w w' : World} {b g : Nat} {t : TypeId} {cs : Array Value} (h : Upd w w' b) (hg : Blk w g t cs) (hne : g ≠ b) : Blk w' g t cs := (h.block g hne).trans hg
def inBlk (b : Nat) : List (Nat × Value) → List (Addr × Value)
  | [] => []
  | (o, v) :: l => (⟨b, o, none⟩, v) :: inBlk b l
def setRow : Array Value → List (Nat × Value) → Array Value
  | cs, [] => cs
  | cs, (o, v) :: l => setRow (cs.setIfInBounds o v) l
def rowOk (n : Nat) : List (Nat × Value) → Prop
  | [] => True
  | (o, v) :: l => o < n ∧ cellVal v ∧ rowOk n l
theorem setAll_blk {b : Nat} {t : TypeId} : ∀ (l : List (Nat × Value)) (w : World) (cs : Array Value), Blk w b t cs → rowOk cs.size l → canAll w (inBlk b l) ∧ Blk (setAll w (inBlk b l)) b t (setRow cs l) ∧ Upd w (setAll w (inBlk b l)) b := by
  intro l
  induction l with
  | nil => intro w cs hb _; exact ⟨trivial, hb, ⟨rfl, rfl, rfl, rfl, fun _ _ => rfl⟩⟩
  | cons x l ih =>
    intro w cs hb hr
    obtain ⟨o, v⟩ := x
    obtain ⟨h1, h2, h3⟩ := hr
    have hb' : Blk (w.setCell ⟨b, o, none⟩ v) b t (cs.setIfInBounds o v) := hb.set o v
    obtain ⟨i1, i2, i3⟩ := ih _ _ hb' (by simpa using h3)
    refine ⟨⟨h2, ⟨cs[o], hb.cell o (by simp [h1])⟩, hb.free o, i1⟩, i2, ⟨i3.os, i3.tape, i3.output, ?_, fun k hk => (i3.block k hk).trans (Below.heap_setCell _ _ _ _ hk)⟩⟩
    rw [show setAll w (inBlk b ((o, v) :: l)) = setAll (w.setCell ⟨b, o, none⟩ v) (inBlk b l) from rfl, i3.size]
    simp [World.setCell]

theorem store1 {N : Act → World → Prop} {Q : Exit → Act → World → Prop} {o : Oper} {n b : Nat} {L : Sl} {t : TypeId} {cs : Array Value} (cs' : Array Value) (l : List (Nat × Value)) (ts : List Nat) (L' : Sl) (hs : St n L a) (hb : Blk w b t cs)
    (he : evS P (execOp (envOf L) o) = some (inBlk b l)) (hr : rowOk cs.size l) (hcs : setRow cs l = cs') (hp : putK n L o.dst undef ts = some L')
    (h : ∀ a' w', Blk w' b t cs' → Upd w w' b → St n L' a' → N a' w') : o.upon P a N Q ((execOp (envOf L) o).run P w) := by
  obtain ⟨i1, i2, i3⟩ := setAll_blk l w cs hb hr
  rw [evS_run _ _ _ he i1]
  subst hcs
  exact h _ _ i2 i3 (hs.putK_ hp)

/-- 'append' onto a row of the call's own. -/
theorem append1 {N : Act → World → Prop} {Q : Exit → Act → World → Prop} {o : Oper} {n : Nat} {L : Sl} {base t e size bytes m q c : Nat} {v : Value} {b off : Nat} {xs cs : List Value} (sx : Operand × Operand) (ts : List Nat) (L' : Value → Sl) (hs : St n L a)
    (hop : o.op = .call { callee := .builtin .append, args := #[sx.1, sx.2], argTypes := #[t, t] }) (h1 : envOf L sx.1 = v) (h2 : envOf L sx.2 = .slice (some ⟨b, off, none⟩) m c) (hp : ∀ v, putK n L o.dst v ts = some (L' v))
    (hE : Elem P t e size bytes) (hown : w.ownsRow base e size v q xs) (hl : cs.length = m * size) (hcs : ∀ j u, cs[j]? = some u → w.cell? ⟨b, off + j, none⟩ = some u) (hc1 : ∀ u ∈ cs, u.oneCell' = true)
    (h63 : q + m ≤ maxLen) (hbytes : (q + m) * bytes ≤ 140737488355328) (hbase : base ≤ w.heap.size)
    (h : ∀ v' a' w', w'.ownsRow base e size v' (q + m) (xs ++ cs) → w.grownBy w' v.ownBlock → St n (L' v') a' → N a' w') : o.upon P a N Q ((execOp (envOf L) o).run P w) := by
  obtain ⟨ht, hsz, inf, z, hi, hz, h3, h4, h5⟩ := hE
  obtain ⟨v', w', hrun, g1, g2, _⟩ := run_append_own (P := P) w base t o.type e inf z size bytes ht hi hz h3 h4 h5 hsz v q xs hown ⟨b, off, none⟩ m c cs hl (fun j u hu => by rw [add_plain]; exact hcs j u hu) hc1 h63 hbytes hbase
  have : (execOp (envOf L) o).run P w = .ok (.value v') w' := by
    unfold execOp
    simp only [hop, resolve, invoke, builtin, Sem.run_bind, Sem.run_pure, Result.andThen_ok, List.map_toArray, List.map_cons, List.map_nil, h1, h2, hrun]
  rw [this]
  exact h _ _ _ g1 g2 (hs.putK_ (hp v'))

theorem least (p : Nat → Prop) (h : ∃ n, p n) : ∃ n, p n ∧ ∀ m, p m → n ≤ m := by
  obtain ⟨n, hn⟩ := h
  induction n using Nat.strongRecOn with
  | _ n ih =>
    by_cases hm : ∃ m, m < n ∧ p m
    · obtain ⟨m, hlt, hp⟩ := hm
      exact ih m hlt hp
    · exact ⟨n, hn, fun m hp => by rcases Nat.lt_or_ge m n with h | h; exact absurd ⟨m, h, hp⟩ hm; exact h⟩
/-- A loop with a ghost. -/
theorem wp_loop_g {c : Code} {Q : Exit → Act → World → Prop} {σ : Type} (I : σ → Act → World → Prop) (m : σ → Nat) (x0 : σ) (h0 : I x0 a w)
    (round : ∀ x a w, I x a w → c.wp P (Exit.then (fun a' w' => ∃ x', I x' a' w' ∧ m x' < m x) Q) a w) : (Code.loop c).wp P Q a w := by
  classical
  have hμ : ∃ μ : Act → World → Nat, ∀ a w x, I x a w → ∃ y, I y a w ∧ m y = μ a w ∧ μ a w ≤ m x := by
    refine ⟨fun a w => if h : ∃ n, (∃ x, I x a w ∧ m x = n) then Classical.choose (least _ h) else 0, fun a w x hx => ?_⟩
    have hex : ∃ n, (∃ x, I x a w ∧ m x = n) := ⟨m x, x, hx, rfl⟩
    dsimp only
    rw [dif_pos hex]
    obtain ⟨⟨y, hy, hm⟩, hmin⟩ := Classical.choose_spec (least _ hex)
    exact ⟨y, hy, hm, hmin _ ⟨x, hx, rfl⟩⟩
  obtain ⟨μ, hμ⟩ := hμ
  refine wp_loop (fun a w => ∃ x, I x a w) μ ⟨x0, h0⟩ ?_
  rintro a w ⟨x, hx⟩
  obtain ⟨y, hy, hm, _⟩ := hμ a w x hx
  refine Code.wp_mono (fun e a' w' hq => ?_) (round y a w hy)
  cases e with
  | normal =>
    obtain ⟨x', hx', hlt⟩ := hq
    obtain ⟨_, _, _, hle⟩ := hμ a' w' x' hx'
    exact ⟨⟨x', hx'⟩, by omega⟩
  | _ => exact hq
theorem at_loop {σ : Type} (I : σ → Act → World → Prop) (m : σ → Nat) (x0 : σ) (hc : nth B i = .loop (nth B (i + 1))) (h0 : I x0 a w)
    (round : ∀ x a w, I x a w → At P fn R B (.lp (fun a' w' => ∃ x', I x' a' w' ∧ m x' < m x) :: K) (i + 1) a w) : At P fn R B K i a w := by
  unfold At; rw [hc]
  exact wp_loop_g I m x0 h0 round

/-- The beginning of a function. -/
def argL : Nat → List Value → Sl
  | _, [] => []
  | k, v :: l => (k, v) :: argL (k + 1) l
theorem argL_look : ∀ (l : List Value) (k t : Nat) (v : Value), look (argL k l) t = some v → k ≤ t ∧ l[t - k]? = some v := by
  intro l
  induction l with
  | nil => intro k t v h; simp [argL, look] at h
  | cons x l ih =>
    intro k t v h
    simp only [argL, look] at h
    split at h
    · rename_i he
      have : k = t := Nat.eq_of_beq_eq_true he
      subst this
      simpa using h
    · obtain ⟨h1, h2⟩ := ih (k + 1) t v h
      refine ⟨by omega, ?_⟩
      rw [show t - k = (t - (k + 1)) + 1 by omega]
      simpa using h2
theorem enter {f : FuncId} {args : List Value} (hf : P.funcs[f]? = some fn) (hB : fn.body = some B) (hn : Nat.ble args.length fn.ntmps = true)
    (h : ∀ a, St fn.ntmps (argL 0 args) a → At P fn R B [] 0 a w) : Calls P f args.toArray w R := by
  refine calls_of_wp hf hB ?_
  have hn := Nat.le_of_ble_eq_true hn
  have := h { tmps := args.toArray ++ Array.replicate (fn.ntmps - args.toArray.size) undef, defers := [] } ⟨rfl, by simp; omega, fun t v hv => by
    obtain ⟨_, h2⟩ := argL_look args 0 t v hv
    have hlt : t < args.length := (List.getElem?_eq_some_iff.1 h2).1
    rw [Array.getElem?_append_left (by simpa using hlt)]
    simpa using h2⟩
  unfold At at this
  have h0 : nth B 0 = B := by cases B <;> rfl
  rw [h0] at this
  exact this

/-- The end: what the results are. -/
def evV (P : Program) : Sem Value → List Value → Option (Value × Obl)
  | .pure n, [] => some (n, [])
  | .program k, H => evV P (k P) H
  | .load .plain a k, v :: H => match evV P (k v) H with
    | some (n, O) => some (n, (fun w => w.cell? a = some v) :: O)
    | none => none
  | _, _ => none
theorem evV_run {P : Program} {w : World} : ∀ (t : Sem Value) (H : List Value) (n : Value) (O : Obl), evV P t H = some (n, O) → conj O w → t.run P w = .ok n w := by
  intro t
  induction t with
  | pure m =>
    intro H n O h _
    cases H with
    | nil => simp [evV] at h; rw [h.1]; rfl
    | cons => simp [evV] at h
  | program k ih =>
    intro H n O h hO
    simp only [evV] at h
    exact ih P H n O h hO
  | load m a k ih =>
    intro H n O h hO
    cases m with
    | atomic => cases H <;> simp [evV] at h
    | plain =>
      cases H with
      | nil => simp [evV] at h
      | cons v H =>
        simp only [evV] at h
        cases hr : evV P (k v) H with
        | none => simp [hr] at h
        | some r =>
          obtain ⟨n', O'⟩ := r
          simp only [hr, Option.some.injEq, Prod.mk.injEq] at h
          obtain ⟨rfl, rfl⟩ := h
          simp only [Sem.run, hO.1]
          exact ih v H _ _ hr hO.2
  | _ => intro H n O h; cases H <;> simp [evV] at h
def resVal (P : Program) (L : Sl) : List ResultVar → List Value → Option (List Value × Obl)
  | [], [] => some ([], [])
  | .tmp t :: rs, H => match look L t with
    | some v => match resVal P L rs H with
      | some (vs, O) => some (v :: vs, O)
      | none => none
    | none => none
  | .cell ad t :: rs, H => match look L ad with
    | some (.pointer (some p)) => match P.info? t with
      | some inf => match evV P (loadVar t p) (H.take inf.size) with
        | some (v, O) => match resVal P L rs (H.drop inf.size) with
          | some (vs, O') => some (v :: vs, O ++ O')
          | none => none
        | none => none
      | none => none
    | _ => none
  | _, _ => none
def bundle : List Value → Value
  | [v] => v
  | vs => .tuple vs.toArray
theorem resVal_run {n : Nat} {L : Sl} (hs : St n L a) : ∀ (rs : List ResultVar) (H vs : List Value) (O : Obl), resVal P L rs H = some (vs, O) → conj O w → ∀ acc : List Value,
    ((rs.mapM (m := Sem) fun
      | .tmp t => pure (a.tmps.getD t undef)
      | .cell ad t => do loadVar t (← asAddr (a.tmps.getD ad undef))).run P w) = .ok vs w := by
  intro rs
  induction rs with
  | nil =>
    intro H vs O h _ _
    cases H <;> simp [resVal] at h
    obtain ⟨rfl, rfl⟩ := h
    rfl
  | cons r rs ih =>
    intro H vs O h hO acc
    rw [List.mapM_cons]
    cases r with
    | tmp t =>
      simp only [resVal] at h
      split at h
      · rename_i v hv
        split at h
        · rename_i vs' O' hr
          simp only [Option.some.injEq, Prod.mk.injEq] at h
          obtain ⟨rfl, rfl⟩ := h
          have := ih H vs' O' hr hO acc
          have hsl := hs.slot _ _ hv
          simp only [Sem.run_bind, Sem.run_pure, Result.andThen_ok, Array.getD_eq_getD_getElem?, hsl, Option.getD_some] at this ⊢
          rw [this]
          rfl
        · cases h
      · cases h
    | cell ad t =>
      simp only [resVal] at h
      split at h
      · rename_i p hv
        split at h
        · rename_i inf hinf
          split at h
          · rename_i v O1 h1
            split at h
            · rename_i vs' O' hr
              simp only [Option.some.injEq, Prod.mk.injEq] at h
              obtain ⟨rfl, rfl⟩ := h
              obtain ⟨hO1, hO2⟩ := conj_append hO
              have := ih _ vs' O' hr hO2 acc
              have hsl := hs.slot _ _ hv
              have hld := evV_run _ _ _ _ h1 hO1
              simp only [Sem.run_bind, Sem.run_pure, Result.andThen_ok, Array.getD_eq_getD_getElem?, hsl, Option.getD_some, asAddr, hld] at this ⊢
              rw [this]
              rfl
            · cases h
          · cases h
        · cases h
      · cases h
def resK (P : Program) (L : Sl) (rs : List ResultVar) (H : List Value) : Option (List Value × (World → Prop)) :=
  match resVal P L rs H with
  | some (vs, O) => some (vs, conj O)
  | none => none
theorem at_end {n : Nat} {L : Sl} {H vs : List Value} {O : World → Prop} {v : Value} (hs : St n L a) (he : resK P L fn.results.toList H = some (vs, O)) (hv : bundle vs = v) (hO : O w) (h : R (.returned v) w) : bodyPost P fn R .ret a w := by
  unfold resK at he
  split at he
  case h_2 => cases he
  rename_i vs0 O0 he0
  simp only [Option.some.injEq, Prod.mk.injEq] at he
  obtain ⟨rfl, rfl⟩ := he
  replace he := he0
  refine ⟨hs.defers, v, ?_, h⟩
  have := resVal_run (P := P) (w := w) hs fn.results.toList H _ O0 he hO []
  unfold Go.results
  generalize hrs : fn.results = rs at *
  obtain ⟨l⟩ := rs
  subst hv
  simp only [List.mapM_toArray, bind_map_left]
  simp only [Sem.run_bind]
  refine (congrArg (fun r : Result (List Value) => r.andThen fun (a : List Value) w' => Sem.run P (pure (if h : a.toArray.size = 1 then a.toArray[0] else Value.tuple a.toArray)) w') this).trans ?_
  match vs0 with
  | [] => rfl
  | [x] => rfl
  | x :: y :: r => simp [bundle]
end
end Go.Proofs.YtpiabmjipgfjjaaDoor

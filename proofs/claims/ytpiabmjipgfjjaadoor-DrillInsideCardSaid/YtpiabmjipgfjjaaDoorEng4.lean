/- The engine: regions that draw their order; small lemmas on numbers. -/
import Derived.Test.YtpiabmjipgfjjaaDoorEng3
namespace Go.Proofs.YtpiabmjipgfjjaaDoor
open Go.RowKit

def W (k : IntKind) (n : Int) : Prop := Value.int k (k.wrap n) = .int k n
theorem w64 {n : Int} (h1 : -9223372036854775808 ≤ n) (h2 : n ≤ 9223372036854775807) : W .i64 n := by unfold W; rw [IntWalk.i64_in n ⟨h1, h2⟩]
theorem wu64 {n : Int} (h1 : 0 ≤ n) (h2 : n ≤ 18446744073709551615) : W .u64 n := by unfold W; rw [IntWalk.u64_in n ⟨h1, h2⟩]
theorem wu32 {n : Int} (h1 : 0 ≤ n) (h2 : n ≤ 4294967295) : W .u32 n := by unfold W; rw [IntWalk.u32_in n ⟨h1, h2⟩]
def Wn (k : IntKind) (x : Int) : Prop := Value.int k (k.wrap (0 - x)) = .int k (-x)
theorem wn64 {n : Int} (h1 : -9223372036854775807 ≤ n) (h2 : n ≤ 9223372036854775808) : Wn .i64 n := by unfold Wn; rw [IntWalk.i64_in _ ⟨by omega, by omega⟩, Int.zero_sub]
def Wq (x y : Int) : Prop := Value.int .i64 (IntKind.i64.wrap (x.tdiv y)) = .int .i64 (x / y)
theorem wq {x y : Int} (h0 : 0 ≤ x) (h1 : x ≤ 9223372036854775807) (h2 : 1 ≤ y) : Wq x y := by
  unfold Wq
  rw [Int.tdiv_eq_ediv_of_nonneg h0]
  have h3 : 0 ≤ x / y := Int.ediv_nonneg h0 (by omega)
  have h4 : x / y ≤ x := Int.ediv_le_self y h0
  rw [IntWalk.i64_in _ ⟨by omega, by omega⟩]
def Wm (k : IntKind) (x y : Int) : Prop := Value.int k (x.tmod y) = .int k (x % y)
theorem wm {k : IntKind} {x y : Int} (h0 : 0 ≤ x) : Wm k x y := by unfold Wm; rw [Int.tmod_eq_emod_of_nonneg h0]

section
variable {n : Nat} {L : Sl} {a : Act}
/-- A slot's Bool is known now. -/
theorem St.know {t : Nat} {b c : Bool} (h : St n L a) (hl : look L t = some (.bool b)) (hb : b = c) : St n ((t, .bool c) :: L) a := by
  subst hb
  refine ⟨h.defers, h.size, fun s v hv => ?_⟩
  simp only [look] at hv
  split at hv
  · rename_i he
    have : t = s := Nat.eq_of_beq_eq_true he
    subst this
    injection hv with hv
    subst hv
    exact h.slot _ _ hl
  · exact h.slot s v hv
/-- The same slots, their values said otherwise. -/
def SubP (L : Sl) : Sl → Prop
  | [] => True
  | (t, v) :: r => (∃ u, look L t = some u ∧ u = v) ∧ SubP L r
theorem SubP_look {L : Sl} : ∀ {L' : Sl}, SubP L L' → ∀ t v, look L' t = some v → look L t = some v := by
  intro L'
  induction L' with
  | nil => intro _ t v h; simp [look] at h
  | cons x r ih =>
    obtain ⟨s, u⟩ := x
    intro h t v hv
    simp only [look] at hv
    split at hv
    · rename_i he
      have : s = t := Nat.eq_of_beq_eq_true he
      subst this
      injection hv with hv
      subst hv
      obtain ⟨⟨u', hu, rfl⟩, _⟩ := h
      exact hu
    · exact ih h.2 t v hv
theorem St.sub {L' : Sl} (h : St n L a) (hs : SubP L L') : St n L' a := ⟨h.defers, h.size, fun t v hv => h.slot t v (SubP_look hs t v hv)⟩
end

/-! A region that draws its order. -/
def mkL (n : Nat) : List Nat → Array Bool
  | [] => Array.replicate n false
  | i :: D => (mkL n D).setIfInBounds i true
theorem mkL_size (n : Nat) : ∀ D, (mkL n D).size = n
  | [] => by simp [mkL]
  | i :: D => by simp [mkL, mkL_size n D]

/-- A panic's post asks nothing of the slots. -/
def PQ (Q : Exit → Act → World → Prop) : Prop := ∀ c a d v w, Q (.panic c) (Act.put a d v) w → Q (.panic c) a w
theorem PQ_body {P : Program} {fn : Func} {R : Ending → World → Prop} : PQ (bodyPost P fn R) := by
  intro c a d v w h
  cases d <;> exact h
theorem PQ_cont {P : Program} {fn : Func} {R : Ending → World → Prop} {B : Code} : ∀ K, PQ (cont P fn R B K)
  | [] => PQ_body
  | .seq _ :: K => fun c a d v w h => PQ_cont K c a d v w h
  | .blk _ :: K => fun c a d v w h => PQ_cont K c a d v w h
  | .lp _ :: K => fun c a d v w h => PQ_cont K c a d v w h

def AtD (P : Program) (fn : Func) (R : Ending → World → Prop) (B : Code) (K : List KI) (i : Nat) (S : World → Prop) (m : Nat) (D : List Nat) (a : Act) (w : World) : Prop :=
  wpAnyH P .any (opsAt (nth B i)) (cont P fn R B K) S m (mkL (opsAt (nth B i)).size D) a w

section
variable {P : Program} {fn : Func} {R : Ending → World → Prop} {B : Code} {K : List KI} {i : Nat} {a : Act} {w : World} {S : World → Prop}

theorem at_draw (S : World → Prop) {id : Nat} (hm : P.follows .mixedOrders = true) (hc : nth B i = .region id (opsAt (nth B i)) true) (m : Nat) (hsz : (opsAt (nth B i)).size = m) (h : ∀ w', Below w.heap.size w w' → AtD P fn R B K i S m [] a w') : At P fn R B K i a w := by
  unfold At; rw [hc]
  refine wp_region_held (S := S) hm ?_
  subst hsz
  have := h w.drew ((Below.refl _ _).drew)
  simpa [AtD, mkL, opsAt] using this

theorem putL_look {n : Nat} {L L' : Sl} {d : Nat} {v : Value} (h : putL n L (some d) v = some L') : look L' d ≠ none := by
  simp only [putL] at h
  split at h
  · injection h with h
    subst h
    simp [look]
  · cases h
theorem stp_dst {n : Nat} {L L' : Sl} {o : Oper} {h : Option Value × List Value} {O : Obl} {ops : Array Oper} (he : stp P ops n L o h = some (L', O)) {d : Nat} (hd : o.dst = some d) (hl : look L' d = none) : False := by
  unfold stp at he
  rw [hd] at he
  repeat' split at he
  all_goals first | (cases he; done) | skip
  all_goals
    simp only [Option.some.injEq, Prod.mk.injEq] at he
    obtain ⟨rfl, rfl⟩ := he
    exact putL_look ‹_› hl
theorem stp_yields {n : Nat} {L L' : Sl} {o : Oper} {h : Option Value × List Value} {O : Obl} {ops : Array Oper} (hs : St n L a) (he : stp P ops n L o h = some (L', O)) (hO : ∀ w, S w → conj O w)
    {d : Nat} (hd : o.dst = some d) (hS : S w) : ∃ u, YieldsIf P ops S o u a ∧ St n L' (a.put o.dst u) := by
  obtain ⟨u, hu, hr⟩ := stp_run hs he (hO w hS)
  refine ⟨u, ?_, hu⟩
  rcases hr with ⟨hw, hrun⟩ | ⟨hw, rfl⟩
  · refine .inl ⟨hw, fun w' hw' => ?_⟩
    obtain ⟨v, hv, ⟨_, hr'⟩ | ⟨hf, _⟩⟩ := stp_run hs he (hO w' hw')
    · have e : v = u := by
        have h0 := hu.size
        rw [hd] at h0 hu hv
        simp only [Act.put, Array.size_setIfInBounds] at h0
        cases hl : look L' d with
        | none =>
          exfalso
          exact stp_dst he hd hl
        | some x =>
          have h1 := hu.slot d x hl
          have h2 := hv.slot d x hl
          simp only [Act.put, Array.getElem?_setIfInBounds, if_true] at h1 h2
          split at h1
          · rename_i hlt
            simp only [hlt, if_true, Option.some.injEq] at h1 h2
            rw [h2, h1]
          · cases h1
      subst e
      exact hr'
    · rw [hw] at hf; cases hf
  · exact .inr ⟨hw, rfl⟩

/-- Quiet operations, in the order 'js'. -/
def segD (P : Program) (c : Code) (n : Nat) (H : Hints) : List Nat → Sl → Option (Sl × Obl)
  | [], L => some (L, [])
  | j :: js, L => match stp P (opsAt c) n L (opAt c j) (hint H j) with
    | some (L', O) => match segD P c n H js L' with
      | some (L'', O') => some (L'', O ++ O')
      | none => none
    | none => none
def okD (c : Code) : List Nat → List Nat → Bool
  | [], _ => Region.noSelect (opsAt c)
  | j :: js, D => hasOp c j && (opAt c j).dst.isSome && Region.free .any (opsAt c) (mkL (opsAt c).size D) j && (Region.ready .any (opsAt c) (mkL (opsAt c).size D)).contains j && okD c js (j :: D)
theorem okD_sel {c : Code} : ∀ {js D : List Nat}, okD c js D = true → Region.noSelect (opsAt c) = true
  | [], _, h => h
  | _ :: js, _, h => by simp only [okD, Bool.and_eq_true] at h; exact okD_sel (js := js) h.2
def revOn : List Nat → List Nat → List Nat
  | [], D => D
  | j :: js, D => revOn js (j :: D)
theorem opAt_get {c : Code} {k : Nat} (h : hasOp c k = true) : (opsAt c)[k]? = some (opAt c k) := by
  have hlt : k < (opsAt c).toList.length := by have := Nat.le_of_ble_eq_true h; omega
  have : (opsAt c).toList[k]? = some (opAt c k) := by unfold opAt; rw [List.getElem?_eq_getElem hlt]; rfl
  simpa using this
theorem segD_wp {n : Nat} {H : Hints} : ∀ (js : List Nat) (m : Nat) (D : List Nat) (L L' : Sl) (O : Obl) (a : Act), segD P (nth B i) n H js L = some (L', O) → okD (nth B i) js D = true → (∀ w, S w → conj O w) → S w → St n L a →
    (∀ a', St n L' a' → AtD P fn R B K i S m (revOn js D) a' w) → AtD P fn R B K i S (m + js.length) D a w := by
  intro js
  induction js with
  | nil =>
    intro m D L L' O a h _ _ _ hs hk
    simp only [segD, Option.some.injEq, Prod.mk.injEq] at h
    obtain ⟨rfl, rfl⟩ := h
    exact hk a hs
  | cons j js ih =>
    intro m D L L' O a h hok hO hS hs hk
    simp only [segD] at h
    split at h
    · rename_i L1 O1 h1
      split at h
      · rename_i L2 O2 h2
        simp only [Option.some.injEq, Prod.mk.injEq] at h
        obtain ⟨rfl, rfl⟩ := h
        have hsel := okD_sel hok
        simp only [okD, Bool.and_eq_true] at hok
        obtain ⟨⟨⟨⟨g1, g2⟩, g3⟩, g4⟩, g5⟩ := hok
        obtain ⟨d, hd⟩ := Option.isSome_iff_exists.1 g2
        obtain ⟨u, hy, hst⟩ := stp_yields (S := S) hs h1 (fun w hw => (conj_append (hO w hw)).1) hd hS
        have := ih m (j :: D) L1 L2 O2 (a.put (opAt (nth B i) j).dst u) h2 g5 (fun w hw => (conj_append (hO w hw)).2) hS hst hk
        exact wpAnyH_take (opAt_get g1) hsel g3 g4 (fun c a w hq => PQ_cont K c a _ _ w hq) hy hS this
      · cases h
    · cases h
def segDK (P : Program) (c : Code) (n : Nat) (H : Hints) (js : List Nat) (L : Sl) (ts : List Nat) : Option (Sl × (World → Prop)) :=
  match segD P c n H js L with
  | some (L', O) => match pickL L' ts with
    | some L2 => some (L2, conj O)
    | none => none
  | none => none
theorem atD_seg {n m : Nat} {L : Sl} (js D : List Nat) (H : Hints) (ts : List Nat) (L' : Sl) (O : World → Prop) (hs : St n L a) (hS : S w) (he : segDK P (nth B i) n H js L ts = some (L', O)) (hok : okD (nth B i) js D = true) (hO : ∀ w, S w → O w)
    (h : ∀ a', St n L' a' → AtD P fn R B K i S m (revOn js D) a' w) : AtD P fn R B K i S (m + js.length) D a w := by
  unfold segDK at he
  split at he
  · rename_i L1 O1 h1
    split at he
    · rename_i L2 h2
      simp only [Option.some.injEq, Prod.mk.injEq] at he
      obtain ⟨rfl, rfl⟩ := he
      exact segD_wp js m D L L1 O1 a h1 hok hO hS hs fun a' ha' => h a' (ha'.pick h2)
    · cases he
  · cases he
/-- The one operation that may come up now. -/
theorem atD_op {n m j : Nat} {L : Sl} {D : List Nat} (hs : St n L a) (hr : Region.ready .any (opsAt (nth B i)) (mkL (opsAt (nth B i)).size D) = [j]) (hg : goes L (nth B i) j = true)
    (h : (opAt (nth B i) j).upon P a (fun a' w' => S w' ∧ AtD P fn R B K i S m (j :: D) a' w') (cont P fn R B K) ((execOp (envOf L) (opAt (nth B i) j)).run P w)) : AtD P fn R B K i S (m + 1) D a w := by
  refine wpAnyH_all (rs := [j]) hr (by simp) fun k hk => ?_
  obtain rfl : k = j := by simpa using hk
  simp only [goes, Bool.and_eq_true] at hg
  obtain ⟨⟨hk, hok⟩, hwt⟩ := hg
  unfold wpOp
  simp only [opAt_get hk]
  have hw : wantedL (opsAt (nth B i)) L (opAt (nth B i) k) = some true := by
    cases hh : wantedL (opsAt (nth B i)) L (opAt (nth B i) k) with
    | none => simp [hh] at hwt
    | some b => cases b <;> simp [hh] at hwt ⊢
  rw [if_pos (hs.wanted hw)]
  refine .inl ?_
  unfold Oper.wp
  rw [hs.exec _ hok]
  exact h
theorem atD_done {m : Nat} {D : List Nat} (hr : Region.ready .any (opsAt (nth B i)) (mkL (opsAt (nth B i)).size D) = []) (h : cont P fn R B K .normal a w) : AtD P fn R B K i S m D a w :=
  wpAnyH_done hr h m
end

theorem blk_row {w : World} {g : Nat} {t : TypeId} {cs : List Value} (h : Blk w g t cs.toArray) : ∀ j u, cs[j]? = some u → w.cell? ⟨g, 0 + j, none⟩ = some u := fun j u hu => by
  rw [Nat.zero_add]; exact h.cell j (by simpa using hu)
/-- A block of mine is not the row that is appended to: that lies from 'base' on. -/
theorem own_keep {w w' : World} {base e size n : Nat} {v : Value} {xs : List Value} {g : Nat} {t : TypeId} {cs : Array Value} (hg : w.grownBy w' v.ownBlock) (ho : w.ownsRow base e size v n xs) (hb : Blk w g t cs) (h : g < base) : Blk w' g t cs :=
  hb.grown hg (fun e => by have := (ho.lt g e.symm).1; omega)
/-- .. or their types differ. -/
theorem own_keep_t {w w' : World} {base e size n : Nat} {v : Value} {xs : List Value} {g : Nat} {t : TypeId} {cs : Array Value} (hg : w.grownBy w' v.ownBlock) (ho : w.ownsRow base e size v n xs) (hb : Blk w g t cs) (h : e ≠ t) : Blk w' g t cs := by
  refine hb.grown hg (fun he => ?_)
  rcases ho.2 with ⟨rfl, _⟩ | ⟨g', cap, cur, rfl, _, hh, _⟩
  · simp [Value.ownBlock] at he
  · have : g = g' := by simpa [Value.ownBlock] using he
    subst this
    unfold Blk at hb
    rw [hh] at hb
    injection hb with hb
    injection hb with _ ht
    exact h ht
theorem own_upd {w w' : World} {base e size n b : Nat} {v : Value} {xs : List Value} (h : w.ownsRow base e size v n xs) (hu : Upd w w' b) (hb : b < base) : w'.ownsRow base e size v n xs := by
  refine ⟨h.1, ?_⟩
  rcases h.2 with h2 | ⟨g, cap, cur, hv, hg, hh, r⟩
  · exact .inl h2
  · exact .inr ⟨g, cap, cur, hv, hg, (hu.block g (by omega)).trans hh, r⟩
theorem own_upd_t {w w' : World} {base e size n b : Nat} {v : Value} {xs : List Value} {t : TypeId} {cs : Array Value} (h : w.ownsRow base e size v n xs) (hu : Upd w w' b) (hb : Blk w b t cs) (hne : e ≠ t) : w'.ownsRow base e size v n xs := by
  refine ⟨h.1, ?_⟩
  rcases h.2 with h2 | ⟨g, cap, cur, hv, hg, hh, r⟩
  · exact .inl h2
  · refine .inr ⟨g, cap, cur, hv, hg, (hu.block g (fun he => ?_)).trans hh, r⟩
    subst he
    unfold Blk at hb
    rw [hh] at hb
    injection hb with hb
    injection hb with _ ht
    exact hne ht
theorem natOf (k m : Nat) : ((k : Int) + (m : Int)).toNat = k + m := by omega

section
variable {P : Program} {fn : Func} {R : Ending → World → Prop} {B : Code} {K : List KI} {i : Nat} {a : Act} {w : World}
theorem at_loop1 {α : Type} (I : α → Act → World → Prop) (m : α → Nat) (x0 : α) (hc : nth B i = .loop (nth B (i + 1))) (h0 : I x0 a w)
    (round : ∀ x a w, I x a w → At P fn R B (.lp (fun a' w' => ∃ x', I x' a' w' ∧ m x' < m x) :: K) (i + 1) a w) : At P fn R B K i a w := at_loop I m x0 hc h0 round
theorem at_loop2 {α β : Type} (I : α → β → Act → World → Prop) (m : α → β → Nat) (x0 : α) (y0 : β) (hc : nth B i = .loop (nth B (i + 1))) (h0 : I x0 y0 a w)
    (round : ∀ x y a w, I x y a w → At P fn R B (.lp (fun a' w' => ∃ x' y', I x' y' a' w' ∧ m x' y' < m x y) :: K) (i + 1) a w) : At P fn R B K i a w := by
  refine at_loop (fun x : α × β => I x.1 x.2) (fun x => m x.1 x.2) (x0, y0) hc h0 ?_
  rintro ⟨x, y⟩ a w h
  refine Code.wp_mono (fun e a' w' hq => ?_) (round x y a w h)
  cases e with
  | normal => obtain ⟨x', y', h1, h2⟩ := hq; exact ⟨(x', y'), h1, h2⟩
  | _ => exact hq
theorem at_loop3 {α β γ : Type} (I : α → β → γ → Act → World → Prop) (m : α → β → γ → Nat) (x0 : α) (y0 : β) (z0 : γ) (hc : nth B i = .loop (nth B (i + 1))) (h0 : I x0 y0 z0 a w)
    (round : ∀ x y z a w, I x y z a w → At P fn R B (.lp (fun a' w' => ∃ x' y' z', I x' y' z' a' w' ∧ m x' y' z' < m x y z) :: K) (i + 1) a w) : At P fn R B K i a w := by
  refine at_loop (fun x : α × β × γ => I x.1 x.2.1 x.2.2) (fun x => m x.1 x.2.1 x.2.2) (x0, y0, z0) hc h0 ?_
  rintro ⟨x, y, z⟩ a w h
  refine Code.wp_mono (fun e a' w' hq => ?_) (round x y z a w h)
  cases e with
  | normal => obtain ⟨x', y', z', h1, h2⟩ := hq; exact ⟨(x', y', z'), h1, h2⟩
  | _ => exact hq
theorem at_loop4 {α β γ δ : Type} (I : α → β → γ → δ → Act → World → Prop) (m : α → β → γ → δ → Nat) (x0 : α) (y0 : β) (z0 : γ) (u0 : δ) (hc : nth B i = .loop (nth B (i + 1))) (h0 : I x0 y0 z0 u0 a w)
    (round : ∀ x y z u a w, I x y z u a w → At P fn R B (.lp (fun a' w' => ∃ x' y' z' u', I x' y' z' u' a' w' ∧ m x' y' z' u' < m x y z u) :: K) (i + 1) a w) : At P fn R B K i a w := by
  refine at_loop (fun x : α × β × γ × δ => I x.1 x.2.1 x.2.2.1 x.2.2.2) (fun x => m x.1 x.2.1 x.2.2.1 x.2.2.2) (x0, y0, z0, u0) hc h0 ?_
  rintro ⟨x, y, z, u⟩ a w h
  refine Code.wp_mono (fun e a' w' hq => ?_) (round x y z u a w h)
  cases e with
  | normal => obtain ⟨x', y', z', u', h1, h2⟩ := hq; exact ⟨(x', y', z', u'), h1, h2⟩
  | _ => exact hq
end
theorem own_blk {w : World} {g t base size m : Nat} {cs : List Value} (hb : Blk w g t cs.toArray) (h : base ≤ g) (hl : cs.length = m * size) (hm : m ≤ maxLen) : w.ownsRow base t size (.slice (some ⟨g, 0, none⟩) m m) m cs :=
  ⟨hl, .inr ⟨g, m, cs.toArray, rfl, h, hb, Nat.le_refl _, hm, by simpa using hl, by simp [← hl]⟩⟩
end Go.Proofs.YtpiabmjipgfjjaaDoor

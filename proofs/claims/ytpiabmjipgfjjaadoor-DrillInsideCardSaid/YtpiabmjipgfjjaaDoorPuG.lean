/- The quiet operations, all of them. -/
import Derived.Test.YtpiabmjipgfjjaaDoorPuF
namespace Go.Proofs.YtpiabmjipgfjjaaDoor
open Go.RowKit

def overV (cs : List Value) : Nat → List Value → List Value
  | _, [] => cs
  | off, s :: r => overV (cs.set off s) (off + 1) r
theorem over_rel {R : SV → Value → Prop} : ∀ {l : List SV} {vs : List Value} {cs : List SV} {us : List Value} (off : Nat), all2 R l vs → all2 R cs us → all2 R (over cs off l) (overV us off vs)
  | [], [], _, _, _, _, h => h
  | _ :: _, _ :: _, _, _, off, ⟨h1, h2⟩, h => over_rel (off + 1) h2 (all2_set off h h1)
theorem overV_len : ∀ {l : List Value} {cs : List Value} {off : Nat}, (overV cs off l).length = cs.length
  | [], _, _ => rfl
  | _ :: r, _, _ => by simp [overV, overV_len (l := r)]
theorem fold_over : ∀ (l : List Value) (off k : Nat) (cells : Array Value), ((l.zipIdx k).foldl (fun (cs : Array Value) (x : Value × Nat) => cs.setIfInBounds (off + x.2) x.1) cells).toList = overV cells.toList (off + k) l
  | [], _, _, _ => rfl
  | v :: l, off, k, cells => by
    rw [List.zipIdx_cons, List.foldl_cons, fold_over l off (k + 1)]
    simp [overV, Nat.add_assoc]
theorem fill_step (v : Value) (off : Nat) (cells : Array Value) : (v.cells.zipIdx.foldl (fun (cs : Array Value) (x : Value × Nat) => cs.setIfInBounds (off + x.2) x.1) cells).toList = overV cells.toList off v.cells.toList := by
  have := fold_over v.cells.toList off 0 cells
  rw [Nat.add_zero] at this
  rw [← this]
  congr 1
  obtain ⟨l⟩ := v.cells
  simp
theorem mkV_cells {t : Ty} {A : Nat → Prop} {w : World} {cs : List Value} {x : t.D} (ht : ∀ a b, t ≠ .pair a b) (h : t.rd A w cs x) : (mkV t cs).cells.toList = cs := by
  cases t with
  | int k => simp only [Ty.rd] at h; subst h; rfl
  | bool => simp only [Ty.rd] at h; subst h; rfl
  | str => simp only [Ty.rd] at h; subst h; rfl
  | sl e => obtain ⟨p, n, c, css, rfl, _⟩ := h; rfl
  | pair a b => exact (ht a b rfl).elim
  | st a => simp [mkV, Ty.isSt, Value.cells]
section
variable {Z : Nat → Prop} {w0 : World} {n : Nat} {L : SL} {H : List Item} {G : List Value} {w : World} {a : Act} {P : Program} {T : TT}
theorem splitS_rel (hr : SR Z w0 H G w) {s : SV} {v : Value} {l : List SV} (h : Rel G (Av Z H G) w s v) (hs : splitS H s = some l) : all2 (Rel1 G (Av Z H G) w) l v.cells.toList := by
  unfold splitS at hs
  split at hs
  · cases hs
  · rename_i t x hne
    injection hs with hs
    subst hs
    obtain ⟨cs, h1, rfl⟩ := h
    rw [mkV_cells (fun a b e => by subst e; exact hne a b x rfl HEq.rfl) h1]
    exact split_rel h1
  · split at hs
    · rename_i j _ et e xs hj
      injection hs with hs
      subst hs
      obtain ⟨css, ho, _⟩ := hr.items j _ _ hj h
      have hc : v.cells.toList = [v] := by rcases own_form' ho with ⟨rfl, _⟩ | ⟨b, c, rfl⟩ <;> rfl
      rw [hc]
      exact ⟨h, trivial⟩
    · cases hs
  · rename_i s' hn1 hn2 hn3
    split at hs <;> try (cases hs; done)
    rename_i hg
    injection hs with hs
    subst hs
    have hc : v.cells.toList = [v] := by
      cases s with
      | d t x => cases t <;> first | exact (hn1 _ _ _ rfl).elim | exact (hn2 _ _ rfl).elim
      | nil => rw [show v = .slice none 0 0 from h]; rfl
      | box j off => obtain ⟨b, _, rfl⟩ := h; rfl
      | elt e x off => obtain ⟨b, o, cs, rfl, _⟩ := h; rfl
      | own j => exact (hn3 j rfl).elim
      | oelt j sz i off => obtain ⟨b, n, c, _, rfl⟩ := h; rfl
      | clo f caps => obtain ⟨bs, _, rfl⟩ := h; rfl
      | tup l => simp [SV.good] at hg
      | undef => simp [SV.good] at hg
      | dead => simp [SV.good] at hg
      | cut e xs => obtain ⟨p, _, rfl⟩ := h; rfl
      | osl j sz lo n => obtain ⟨g, q, c, _, rfl, _⟩ := h; rfl
    rw [hc]
    exact ⟨rel_to1 h (fun l e => by subst e; simp [SV.good] at hg), trivial⟩
theorem fillS_rel (hr : SR Z w0 H G w) (hf : FR Z n L H G w a) {place : Nat → Option (Nat × Nat)} : ∀ {parts : List (Nat × Operand)} {cs cs' : List SV} {us : Array Value}, fillS H L place cs parts = some cs' → all2 (Rel1 G (Av Z H G) w) cs us.toList →
    ∃ us', Instr.fill place us (parts.map fun p => (p.1, a.eval p.2)) = some us' ∧ all2 (Rel1 G (Av Z H G) w) cs' us'.toList
  | [], cs, cs', us, h, ha => by simp only [fillS, Option.some.injEq] at h; subst h; exact ⟨us, rfl, ha⟩
  | (i, x) :: r, cs, cs', us, h, ha => by
    simp only [fillS] at h
    split at h
    · rename_i off size s hp hs
      split at h <;> try (cases h; done)
      rename_i l hl
      split at h <;> try (cases h; done)
      rename_i hb
      simp only [Bool.and_eq_true] at hb
      have hv := opS_rel hf hs
      have hl2 := splitS_rel hr hv hl
      have hlen : (a.eval x).cells.size = l.length := by have := all2_len hl2; simpa using this.symm
      have hlu : cs.length = us.size := by have := all2_len ha; simpa using this
      obtain ⟨us', h1, h2⟩ := fillS_rel hr hf (us := ((a.eval x).cells.zipIdx.foldl (fun (cs : Array Value) (x : Value × Nat) => cs.setIfInBounds (off + x.2) x.1) us)) h (by rw [fill_step]; exact over_rel off hl2 ha)
      refine ⟨us', ?_, h2⟩
      have e1 := Nat.eq_of_beq_eq_true hb.1
      have e2 := Nat.le_of_ble_eq_true hb.2
      simp only [List.map_cons, Instr.fill, hp]
      rw [if_neg (by simp [hlen, e1]; omega)]
      exact h1
    · cases h
theorem chk_built {t : Nat} {i : TI} (hc : chk P t i = true) (hz : i.z = true) (hst : i.ty.isSt = true) (parts : List (Nat × Value)) : P.built t parts = Instr.fill (placeOf i i.el) (zc i.ty).toArray parts := by
  obtain ⟨inf, hi, hzero⟩ := chk_zero hc hz
  unfold chk at hc
  rw [hi] at hc
  cases hu : P.underlying t with
  | none => rw [hu] at hc; cases hc
  | some d =>
    rw [hu] at hc
    simp only [Bool.and_eq_true] at hc
    have hc := hc.2
    have hmk : (mkV i.ty (zc i.ty)).cells = (zc i.ty).toArray := by simp [mkV, hst, Value.cells]
    unfold Program.built
    rw [hi, hu]
    match d, hc with
    | .struct fs, hc =>
      simp only [Bool.and_eq_true] at hc
      obtain ⟨_, hc⟩ := hc
      split at hc
      · rename_i pl hpl
        simp only [Bool.and_eq_true] at hc
        obtain ⟨rfl, _⟩ := eqP_eq hc.1
        simp only [hzero, hpl, hmk]
        congr 1
        unfold placeOf
        rw [hc.2]
        funext k
        simp
      · cases hc
    | .array m e, hc =>
      simp only [Bool.and_eq_true] at hc
      obtain ⟨⟨⟨⟨_, h1⟩, h2⟩, h3⟩, h4⟩ := hc
      split at h4
      · rename_i j hj
        simp only [hzero, hj, hmk, Nat.eq_of_beq_eq_true h4]
        unfold placeOf
        have e1 := Nat.eq_of_beq_eq_true h1
        have e2 := Nat.le_of_ble_eq_true h2
        have e3 : Nat.beq i.len 0 = false := by rw [← e1]; cases m <;> first | omega | rfl
        rw [e3]
      · cases h4
    | .slice e, hc => 
      dsimp only at hc
      split at hc
      · rename_i he _; rw [he] at hst; cases hst
      · cases hc
    | .invalid, hc | .bool, hc | .int _, hc | .float _, hc | .complex _, hc | .string, hc | .pointer _, hc | .map _ _, hc | .chan _ _, hc | .func _ _ _, hc | .interface _, hc | .tuple _, hc | .named _ _, hc | .unsafePointer, hc =>
      simp only [Bool.and_eq_true] at hc
      have hc := hc.2
      generalize i.ty = ty at *
      cases ty <;> simp_all [Ty.isSt]
theorem slice_sl {t : Nat} {i : TI} {e : Ty} (hc : chk P t i = true) (ht : i.ty = .sl e) {xs : List e.D} {l h : Int} {p : Value} {lo hi : Option Value} (hp : Rel G (Av Z H G) w (.d (.sl e) xs) p)
    (hlo : (lo = none ∧ l = 0) ∨ ∃ kd, lo = some (.int kd l)) (hhi : (hi = none ∧ h = xs.length) ∨ ∃ kd, hi = some (.int kd h)) (hb : 0 ≤ l ∧ l ≤ h ∧ h ≤ xs.length) :
    ∃ v, Rel1 G (Av Z H G) w (.d (.sl e) ((xs.take h.toNat).drop l.toNat)) v ∧ ∀ w', (Instr.sliceAt t p lo hi none).run P w' = .ok v w' := by
  obtain ⟨cs, hrd, rfl⟩ := hp
  obtain ⟨p, n, c, css, rfl, h1, h2, h3, h4, h5⟩ := hrd
  obtain ⟨hu, _, j, hj, hjs, _⟩ := chk_slice hc ht
  obtain ⟨b1, b2, b3⟩ := hb
  have hel : P.elem t = i.el := by simp [Program.elem, hu]
  have hu' : P.underlying t = some (.slice (P.elem t)) := by rw [hel]; exact hu
  have hsz : ∀ w', (sizeOf (P.elem t)).run P w' = .ok e.n w' := fun w' => by rw [hel]; simp [sizeOf, typeInfo, hj, hjs]
  refine ⟨sliced p l.toNat h.toNat c e.n, ?_, fun w' => ?_⟩
  · have hl4 := rds_len h4
    have hlen : ((xs.take h.toNat).drop l.toNat).length = h.toNat - l.toNat := by simp; omega
    refine ⟨[sliced p l.toNat h.toNat c e.n], ⟨if c = l.toNat then p else p.map (·.add (l.toNat * e.n)), h.toNat - l.toNat, c - l.toNat, (css.take h.toNat).drop l.toNat, rfl, hlen, by omega, by omega, all2_drop _ (all2_take _ h4), fun hn => ?_⟩, rfl⟩
    have hn0 : 0 < n := by omega
    have hcl : c ≠ l.toNat := by omega
    obtain ⟨b, off, rfl, hA, hb, hcs⟩ := h5 hn0
    refine ⟨b, off + l.toNat * e.n, ?_, hA, hb, ?_⟩
    · rw [if_neg hcl]
      simp [add_plain]
    · intro k v hv
      rw [flatten_drop _ (fun l hm => hl4 l (List.mem_of_mem_take hm)), flatten_take _ hl4, List.getElem?_drop, List.getElem?_take] at hv
      split at hv
      · have := hcs _ _ hv
        rwa [← Nat.add_assoc] at this
      · cases hv
  · rw [run_sliceAt_slice w' t _ lo hi none hu']
    have hn : (n : Int) = xs.length := by omega
    rcases hlo with ⟨rfl, rfl⟩ | ⟨kl, rfl⟩ <;> rcases hhi with ⟨rfl, rfl⟩ | ⟨kh, rfl⟩
    · have := run_slice_all (P := P) w' t p n c hu'
      simp only [mkV, Ty.isSt, List.headD_cons, this, hsz, Result.andThen_ok, ← hn]
      simp
    · have := run_slice_h (P := P) w' t p n c hu' kh h (by omega) (by omega)
      simp only [mkV, Ty.isSt, List.headD_cons, this, hsz, Result.andThen_ok]
      simp
    · have := run_slice_l (P := P) w' t p n c hu' kl l (by omega) (by omega)
      simp only [mkV, Ty.isSt, List.headD_cons, this, hsz, Result.andThen_ok, ← hn]
      simp
    · have := run_slice_lh (P := P) w' t p n c hu' kl kh l h (by omega) (by omega) (by omega)
      simp only [mkV, Ty.isSt, List.headD_cons, this, hsz, Result.andThen_ok]
theorem slice3_sl {t : Nat} {i : TI} {e : Ty} (hc : chk P t i = true) (ht : i.ty = .sl e) {xs : List e.D} {l h m : Int} {p : Value} {lo hi mx : Option Value} (hp : Rel G (Av Z H G) w (.d (.sl e) xs) p)
    (hlo : (lo = none ∧ l = 0) ∨ ∃ kd, lo = some (.int kd l)) (hhi : ∃ kd, hi = some (.int kd h)) (hmx : ∃ kd, mx = some (.int kd m)) (hb : 0 ≤ l ∧ l ≤ h ∧ h ≤ m ∧ m ≤ xs.length) :
    ∃ v, Rel1 G (Av Z H G) w (.d (.sl e) ((xs.take h.toNat).drop l.toNat)) v ∧ (h = m → Rel1 G (Av Z H G) w (.cut e ((xs.take h.toNat).drop l.toNat)) v) ∧ ∀ w', (Instr.sliceAt t p lo hi mx).run P w' = .ok v w' := by
  obtain ⟨cs, hrd, rfl⟩ := hp
  obtain ⟨p, n, c, css, rfl, h1, h2, h3, h4, h5⟩ := hrd
  obtain ⟨hu, _, j, hj, hjs, _⟩ := chk_slice hc ht
  obtain ⟨b1, b2, b3, b4⟩ := hb
  have hel : P.elem t = i.el := by simp [Program.elem, hu]
  have hu' : P.underlying t = some (.slice (P.elem t)) := by rw [hel]; exact hu
  have hsz : ∀ w', (sizeOf (P.elem t)).run P w' = .ok e.n w' := fun w' => by rw [hel]; simp [sizeOf, typeInfo, hj, hjs]
  have hlen : ((xs.take h.toNat).drop l.toNat).length = h.toNat - l.toNat := by simp; omega
  have main : (Ty.sl e).rd (Av Z H G) w [sliced p l.toNat h.toNat m.toNat e.n] ((xs.take h.toNat).drop l.toNat) := by
    have hl4 := rds_len h4
    refine ⟨if m.toNat = l.toNat then p else p.map (·.add (l.toNat * e.n)), h.toNat - l.toNat, m.toNat - l.toNat, (css.take h.toNat).drop l.toNat, rfl, hlen, by omega, by omega, all2_drop _ (all2_take _ h4), fun hn => ?_⟩
    have hn0 : 0 < n := by omega
    have hcl : m.toNat ≠ l.toNat := by omega
    obtain ⟨b, off, rfl, hA, hb, hcs⟩ := h5 hn0
    refine ⟨b, off + l.toNat * e.n, ?_, hA, hb, ?_⟩
    · rw [if_neg hcl]
      simp [add_plain]
    · intro k v hv
      rw [flatten_drop _ (fun l hm => hl4 l (List.mem_of_mem_take hm)), flatten_take _ hl4, List.getElem?_drop, List.getElem?_take] at hv
      split at hv
      · have := hcs _ _ hv
        rwa [← Nat.add_assoc] at this
      · cases hv
  refine ⟨sliced p l.toNat h.toNat m.toNat e.n, ⟨_, main, rfl⟩, fun hm => ?_, fun w' => ?_⟩
  · subst hm
    refine ⟨if h.toNat = l.toNat then p else p.map (·.add (l.toNat * e.n)), ?_, ?_⟩
    · rw [hlen]; exact main
    · rw [hlen]; rfl
  · rw [run_sliceAt_slice w' t _ lo hi mx hu']
    obtain ⟨kh, rfl⟩ := hhi
    obtain ⟨km, rfl⟩ := hmx
    rcases hlo with ⟨rfl, rfl⟩ | ⟨kl, rfl⟩
    · have := run_slice_hm (P := P) w' t p n c hu' kh km h m (by omega) (by omega) (by omega)
      simp only [mkV, Ty.isSt, List.headD_cons, this, hsz, Result.andThen_ok]
      simp
    · have := run_slice_lhm (P := P) w' t p n c hu' kl kh km l h m (by omega) (by omega) (by omega) (by omega)
      simp only [mkV, Ty.isSt, List.headD_cons, this, hsz, Result.andThen_ok]
theorem boxIds_rel : ∀ {l : List SV} {js : List Nat} {vs : List Value}, boxIds l = some js → all2 (Rel G (Av Z H G) w) l vs → ∃ bs : List Nat, all2 (fun j b => G[j]? = some (.pointer (some ⟨b, 0, none⟩))) js bs ∧ vs = bs.map fun b => .pointer (some ⟨b, 0, none⟩)
  | [], js, [], h, _ => by simp only [boxIds, Option.some.injEq] at h; subst h; exact ⟨[], trivial, rfl⟩
  | s :: l, js, v :: vs, h, ⟨h1, h2⟩ => by
    unfold boxIds at h
    split at h
    · rename_i he; cases he
    · rename_i j r he
      injection he with e1 e2
      subst e1 e2
      split at h
      · rename_i l' hl'
        injection h with h
        subst h
        obtain ⟨b, hb, rfl⟩ := h1
        obtain ⟨bs, g1, g2⟩ := boxIds_rel hl' h2
        exact ⟨b :: bs, ⟨hb, g1⟩, by rw [g2]; rfl⟩
      · cases h
    · cases h
theorem allS_rel (hf : FR Z n L H G w a) : ∀ {l : List Operand} {ss : List SV}, allS L l = some ss → all2 (Rel G (Av Z H G) w) ss (l.map a.eval)
  | [], ss, h => by simp only [allS, Option.some.injEq] at h; subst h; trivial
  | x :: l, ss, h => by
    simp only [allS] at h
    split at h
    · rename_i s l' h1 h2
      injection h with h
      subst h
      exact ⟨opS_rel hf h1, allS_rel hf h2⟩
    · cases h
theorem slB_rel (hf : FR Z n L H G w a) {d l : Int} {o : Option Operand} (h : slB L d o = some l) : (o.map a.eval = none ∧ l = d) ∨ ∃ kd, o.map a.eval = some (.int kd l) := by
  unfold slB at h
  split at h
  · injection h with h; exact .inl ⟨rfl, h.symm⟩
  · split at h
    · rename_i kd i hs
      injection h with h
      subst h
      obtain ⟨cs, h1, h2⟩ := opS_rel hf hs
      simp only [Ty.rd] at h1
      subst h1
      exact .inr ⟨kd, by simp [h2, mkV, Ty.isSt]⟩
    · cases h
end
end Go.Proofs.YtpiabmjipgfjjaaDoor

/- The pure machine is sound. -/
import Derived.Test.YtpiabmjipgfjjaaDoorPuR
namespace Go.Proofs.YtpiabmjipgfjjaaDoor
open Go.RowKit
theorem argsL_rel {Z : Nat → Prop} {H : List Item} {G : List Value} {w : World} {a : Act} : ∀ {ss : List SV} {vs : List Value} {k : Nat}, all2 (Rel G (Av Z H G) w) ss vs → (∀ t v, look (argL k vs) t = some v → a.tmps[t]? = some v) → ∀ t s, lookS (argsL k ss) t = some s → ∃ v, a.tmps[t]? = some v ∧ Rel G (Av Z H G) w s v
  | [], [], k, _, _, t, s, h => by simp [argsL, lookS] at h
  | s0 :: ss, v0 :: vs, k, ⟨h1, h2⟩, ha, t, s, h => by
    rcases lookS_cons h with ⟨rfl, rfl⟩ | ⟨hne, h3⟩
    · exact ⟨v0, ha t v0 (by simp [argL, look]), h1⟩
    · refine argsL_rel h2 (fun u x hx => ha u x ?_) t s h3
      simp only [argL, look]
      split
      · rename_i hb
        have e : k = u := Nat.eq_of_beq_eq_true hb
        have := (argL_look vs (k + 1) u x hx).1
        omega
      · exact hx
def AtG (P : Program) (fn : Func) (R : Ending → World → Prop) (B : Code) (K : List KI) (i : Nat) (st : Option Nat) (S0 : World → Prop) (m : Nat) (D : List Nat) (a : Act) (w : World) : Prop :=
  wpG P (opsAt (nth B i)) (cont P fn R B K) st S0 m (mkL (opsAt (nth B i)).size D) a w
def PosOk (P : Program) (F : FT) (Rt : Ending → World → Prop) (c : Cfg) (fn : Func) (G : List Value) (w : World) (a : Act) (ats : List Act) : Pos → Prop
  | .nrm => cont P fn (RetR P F Rt c.fs ats) (bodyF F c.f) (toKI P fn (RetR P F Rt c.fs ats) (bodyF F c.f) c.K) .normal a w
  | .node i => At P fn (RetR P F Rt c.fs ats) (bodyF F c.f) (toKI P fn (RetR P F Rt c.fs ats) (bodyF F c.f) c.K) i a w
  | .ops i k => AtR P fn (RetR P F Rt c.fs ats) (bodyF F c.f) (toKI P fn (RetR P F Rt c.fs ats) (bodyF F c.f) c.K) i k a w
  | .ret => bodyPost P fn (RetR P F Rt c.fs ats) .ret a w
  | .drw i rw eff D => ∀ st Hs Gs ws, storeAt (opsAt (nth (bodyF F c.f) i)) = some st → (D.length = (opsAt (nth (bodyF F c.f) i)).size ∨ (Agr rw Hs Gs ws w ∧ (∀ b, b < ws.heap.size → RowsB c.H G b → RowsB Hs Gs b) ∧ (eff = false → c.H = Hs ∧ G = Gs ∧ w = ws) ∧ ∀ s, st = some s → (mkL (opsAt (nth (bodyF F c.f) i)).size D).getD s true = false)) → Region.noSelect (opsAt (nth (bodyF F c.f) i)) = true →
      ∀ m', m' + D.length = (opsAt (nth (bodyF F c.f) i)).size → AtG P fn (RetR P F Rt c.fs ats) (bodyF F c.f) (toKI P fn (RetR P F Rt c.fs ats) (bodyF F c.f) c.K) i st (Agr rw Hs Gs ws) m' D a w
section
variable {Z : Nat → Prop} {w0 : World} {F : FT} {P : Program} {T : TT} {E : Env} {N : NT} {Fin : Nat → Cfg → Option (List RV)} {Rt : Ending → World → Prop} {r : List RV}
theorem wayJ_ok {fn : Func} {R : Ending → World → Prop} {B : Code} {id : Nat} : ∀ {K K' : List KJ}, wayJ id K = some K' → wayE id (toKI P fn R B K) = some (toKI P fn R B K')
  | [], K', h => by simp [wayJ] at h
  | .blk j :: K, K', h => by
    simp only [wayJ] at h
    simp only [toKI, wayE]
    split at h
    · rename_i hb; rw [hb]; injection h with h; rw [h]
    · rename_i hb; rw [hb]; exact wayJ_ok h
  | .seq _ :: K, K', h => by simp only [wayJ] at h; simp only [toKI, wayE]; exact wayJ_ok h
  | .lp _ :: K, K', h => by simp only [wayJ] at h; simp only [toKI, wayE]; exact wayJ_ok h
theorem into_ok {L : SL} {H : List Item} {G : List Value} {w : World} {a : Act} {n g : Nat} {ss : List SV} {o : Op} (hf : FR Z n L H G w a) (h : into F E L o = some (g, ss)) : ∃ f args tys fn caps, o = .call ⟨.value f, args, tys⟩ ∧ lookF F g = some fn ∧ a.eval f = .func (.func g) #[] caps ∧ all2 (Rel G (Av Z H G) w) ss (args.map a.eval ++ caps).toList ∧ ss.length ≤ fn.ntmps ∧ (!(fn.name == "runtime.NumGoroutine")) = true ∧ fn.body.isSome = true := by
  unfold into at h
  split at h <;> try (cases h; done)
  rename_i f args tys
  split at h <;> try (cases h; done)
  rename_i g' caps hs
  split at h <;> try (cases h; done)
  split at h <;> try (cases h; done)
  rename_i fn ss' hfn hss
  split at h <;> try (cases h; done)
  rename_i hb
  simp only [Option.some.injEq, Prod.mk.injEq] at h
  obtain ⟨rfl, rfl⟩ := h
  simp only [Bool.and_eq_true] at hb
  obtain ⟨bs, hbs, hfv⟩ := opS_rel hf hs
  refine ⟨f, args, tys, fn, _, rfl, hfn, hfv, ?_, by simp; exact Nat.le_of_ble_eq_true hb.1, hb.2.1, hb.2.2⟩
  have h1 := allS_rel hf hss
  have h2 : all2 (Rel G (Av Z H G) w) (caps.map fun j => .box j 0) (bs.map fun b => Value.pointer (some ⟨b, 0, none⟩)) := by
    clear hs hfv
    induction caps generalizing bs with
    | nil => cases bs <;> exact hbs
    | cons c caps ih =>
      match bs, hbs with
      | b :: bs, ⟨q1, q2⟩ => exact ⟨⟨b, q1, rfl⟩, ih (by
          simp only [List.length_cons] at hb
          exact ⟨Nat.ble_eq_true_of_le (by have := Nat.le_of_ble_eq_true hb.1; omega), hb.2⟩) bs q2⟩
  have := all2_append h1 h2
  simpa using this
theorem pickQ_ok {ops : Array Oper} {eff : Bool} {D : List Nat} : ∀ {rs : List Nat} {j : Nat}, pickQ ops eff D rs = some j → j ∈ rs ∧ ∃ o, ops[j]? = some o ∧ isQ o.op = true ∧ (isLoad o.op = true → eff = false) ∧ o.dst.isSome = true ∧ Region.free .any ops (mkL ops.size D) j = true
  | [], j, h => by simp [pickQ] at h
  | q :: rs, j, h => by
    simp only [pickQ] at h
    split at h <;> try (cases h; done)
    rename_i o ho
    split at h
    · rename_i hb
      injection h with h
      subst h
      simp only [Bool.and_eq_true, Bool.not_eq_true', Bool.and_eq_false_iff] at hb
      obtain ⟨⟨⟨b1, b2⟩, b3⟩, b4⟩ := hb
      exact ⟨by simp, o, ho, b1, fun hl => by rcases b2 with b2 | b2; rw [hl] at b2; cases b2; exact b2, b3, b4⟩
    · obtain ⟨h1, h2⟩ := pickQ_ok h
      exact ⟨by simp [h1], h2⟩
end
end Go.Proofs.YtpiabmjipgfjjaaDoor

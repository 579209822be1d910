/- What the pure machine computes is what a call returns. -/
import Derived.Test.YtpiabmjipgfjjaaDoorPuU
namespace Go.Proofs.YtpiabmjipgfjjaaDoor
open Go.RowKit
/-- All that is given for a seat. -/
structure Ctx where
  P : Program
  F : FT
  T : TT
  E : Env
  N : NT
structure Ctx.Ok (C : Ctx) : Prop where
  T : chkAll C.P C.T = true
  E : EnvOk C.P C.E
  F : ∀ f fn, lookF C.F f = some fn → C.P.funcs[f]? = some fn
  m : C.P.follows .mixedOrders = true
noncomputable def Ctx.k (C : Ctx) (n : Nat) : Nat → Cfg → Option (List RV) := run C.P C.F C.T C.E C.N n
/-- From a loop's head on. -/
def Ctx.Runs (C : Ctx) (i : Nat) (c : Cfg) (r : List RV) : Prop := ∃ n, C.k n i c = some r
noncomputable def Ctx.go (C : Ctx) (n : Nat) (c : Cfg) (p : Pos) : Option (List RV) := Proofs.YtpiabmjipgfjjaaDoor.go C.P C.F C.T C.E C.N (C.k n) 4000 c p
/-- From the function's beginning on. -/
def Ctx.Res (C : Ctx) (f : Nat) (args : List SV) (r : List RV) : Prop := ∃ n, C.go n (start f args) (.node 0) = some r
theorem Ctx.Runs.step {C : Ctx} {i : Nat} {c : Cfg} {r : List RV} (h : ∃ n, C.go n { c with K := .lp i :: c.K } (.node (i + 1)) = some r) : C.Runs i c r := by
  obtain ⟨n, h⟩ := h
  exact ⟨n + 1, h⟩
def okF (fn : Func) (k : Nat) : Bool := fn.body.isSome && Nat.ble k fn.ntmps
theorem run_sound {C : Ctx} (ok : C.Ok) {Z : Nat → Prop} {w0 : World} (hI : inv w0) {Rt : Ending → World → Prop} {r : List RV} (hRt : ∀ vs H G w ss tys, outR C.T H ss tys = some r → SR Z w0 H G w → all2 (Rel G (Av Z H G) w) ss vs → Rt (.returned (bundle vs)) w) :
    ∀ n i c G w a ats fn, run C.P C.F C.T C.E C.N n i c = some r → CR Z C.F w0 c G w a ats → lookF C.F c.f = some fn → InLoop C.P (nth (bodyF C.F c.f) (i + 1)) (cont C.P fn (RetR C.P C.F Rt c.fs ats) (bodyF C.F c.f) (toKI C.P fn (RetR C.P C.F Rt c.fs ats) (bodyF C.F c.f) c.K)) a w := by
  intro n
  induction n with
  | zero => intro i c G w a ats fn h; simp [run] at h
  | succ n ih =>
    intro i c G w a ats fn h hc hfn
    simp only [run] at h
    have := go_sound ok.T ok.E hI ok.F ok.m hRt (fun i c G w a ats fn h1 h2 h3 => ih i c G w a ats fn h1 h2 h3) 4000 _ _ h G w a ats fn ⟨hc.sr, hc.fr, hc.fl, hc.frs⟩ hfn
    exact InLoop.step this
theorem Ctx.Res.con {C : Ctx} (ok : C.Ok) {f : Nat} {fn : Func} {args : List SV} {r : List RV} (h : C.Res f args r) (hfn : lookF C.F f = some fn) (hk : okF fn args.length = true) : Con C.P f args r := by
  intro A w vs hI ha
  obtain ⟨n, h⟩ := h
  simp only [okF, Bool.and_eq_true] at hk
  obtain ⟨B, hB⟩ := Option.isSome_iff_exists.1 hk.1
  have hbf : bodyF C.F f = B := by simp [bodyF, hfn, hB]
  let Z : Nat → Prop := fun b => A b ∨ w.heap.size ≤ b
  have hkp : Keeps A (Av Z [] []) w w := ⟨Nat.le_refl _, fun b _ hA => ⟨.inl hA, fun j it g h => by simp at h⟩, fun _ _ _ => rfl⟩
  have ha2 : all2 (Rel [] (Av Z [] []) w) args vs := all2_mono (fun s v h => rel_of1 (h.keep hkp fun j g _ h => h)) ha
  refine enter (ok.F f fn hfn) hB (Nat.ble_eq_true_of_le (by rw [← all2_len ha]; exact Nat.le_of_ble_eq_true hk.2)) fun a hst => ?_
  have hsr : SR Z w [] [] w := ⟨rfl, Below.refl _ _, fun j it g h => by simp at h, fun i j it jt g h b _ h1 => by simp at h1, fun b hb => .inr hb⟩
  let Rt : Ending → World → Prop := fun e w' => ∃ v, e = .returned v ∧ Below w.heap.size w w' ∧ ResRel Z w.heap.size w' r v
  have hRt : ∀ vs H G w' ss tys, outR C.T H ss tys = some r → SR Z w H G w' → all2 (Rel G (Av Z H G) w') ss vs → Rt (.returned (bundle vs)) w' := fun vs H G w' ss tys h1 h2 h3 => ⟨_, rfl, h2.below, out_ok ok.T h2 h1 h3⟩
  have := go_sound ok.T ok.E hI ok.F ok.m hRt (fun i c G w a ats fn h1 h2 h3 => run_sound ok hI hRt n i c G w a ats fn h1 h2 h3) 4000 _ _ h [] w a [] fn ⟨hsr, ⟨hst.defers, by rw [hst.size]; simp [ntm, start, hfn], argsL_rel ha2 hst.slot⟩, Nat.le_refl _, trivial⟩ hfn
  simp only [PosOk, toKI, start] at this
  rw [hbf] at this
  exact this
theorem flat_map_ints (xs : List Int) : (xs.map fun y => [Value.int .i64 y]).flatten = xs.map (Value.int .i64) := by
  induction xs with
  | nil => rfl
  | cons y ys ih => simp [ih]
theorem ints_rd {A : Nat → Prop} {w : World} (xs : List Int) : all2 (fun l y => (Ty.int .i64).rd A w l y) (xs.map fun y => [Value.int .i64 y]) xs := by
  induction xs with
  | nil => trivial
  | cons y ys ih => exact ⟨rfl, ih⟩
def FtAll (P : Program) : FT → Prop
  | [] => True
  | p :: l => P.funcs[p.1]? = some p.2 ∧ FtAll P l
theorem FtAll.look {P : Program} : ∀ {l : FT}, FtAll P l → ∀ f fn, lookF l f = some fn → P.funcs[f]? = some fn
  | [], _, f, fn, h => by simp [lookF] at h
  | (k, x) :: l, ⟨h1, h2⟩, f, fn, h => by
    simp only [lookF] at h
    split at h
    · rename_i hb
      have := Nat.eq_of_beq_eq_true hb
      subst this
      injection h with h
      subst h
      exact h1
    · exact FtAll.look h2 f fn h
/-- A known function. -/
theorem specOk_of {P : Program} {f : Nat} {sp : Spec} (h : ∀ (R : Type) args (k : List RV → Option R) r, sp.run R args k = some r → ∃ rs, k rs = some r ∧ Con P f args rs) : SpecOk P f sp := h
end Go.Proofs.YtpiabmjipgfjjaaDoor

/- drill.Bore: what it returns, for the law DrillInside. -/
import Derived.Test.YtpiabmjipgfjjaaDoorDi5
import Derived.Test.YtpiabmjipgfjjaaDoorToolValid
namespace Go.Proofs.YtpiabmjipgfjjaaDoor
open Go.RowKit
abbrev T8 := Int × Int × Int × Int × Int × Int × Int × Int
def tl8 (t : T8) : Tl := ⟨t.1, t.2.1, t.2.2.1, t.2.2.2.1, t.2.2.2.2.1, t.2.2.2.2.2.1, t.2.2.2.2.2.2.1, t.2.2.2.2.2.2.2⟩
def b64 (x : Int) : Prop := -9223372036854775808 ≤ x ∧ x ≤ 9223372036854775807
instance (x : Int) : Decidable (b64 x) := by unfold b64; infer_instance
def tvP (t : T8) : Prop := b64 t.1 ∧ b64 t.2.1 ∧ b64 t.2.2.1 ∧ b64 t.2.2.2.1 ∧ b64 t.2.2.2.2.1 ∧ b64 t.2.2.2.2.2.1 ∧ b64 t.2.2.2.2.2.2.1 ∧ b64 t.2.2.2.2.2.2.2
instance (t : T8) : Decidable (tvP t) := by unfold tvP; infer_instance
def tvF (t : T8) : Int := if (tl8 t).good then 0 else 1
theorem tv_con (t : T8) (h : tvP t) : Con Tryd.prog 25 [.d (.st (.pair (.int .i64) (.pair (.int .i64) (.pair (.int .i64) (.pair (.int .i64) (.pair (.int .i64) (.pair (.int .i64) (.pair (.int .i64) (.int .i64))))))))) t] [.d (.int .i64) (tvF t)] := by
  intro A w vs hI ha
  match vs, ha with
  | [v], ⟨hv, _⟩ =>
    obtain ⟨cs, hrd, rfl⟩ := hv
    obtain ⟨_, _, rfl, rfl, _, _, rfl, rfl, _, _, rfl, rfl, _, _, rfl, rfl, _, _, rfl, rfl, _, _, rfl, rfl, _, _, rfl, rfl, rfl⟩ := hrd
    refine (valid_any (tl8 t) w hI h).mono ?_
    rintro e w' ⟨rfl, hb⟩
    exact ⟨_, rfl, hb, _, rfl, rfl⟩
def insB2 (n : Int) : Bool := decide (-10000000 ≤ n) && decide (n ≤ 10000000)
def milB (t : T8) (r : Int) : Bool := (t.2.1 == 1) && (decide (t.2.2.1 < r) && decide (IntKind.i64.wrap (r - t.2.2.1) ≤ t.2.2.1))
def pos3 (g : Int × Int) (z : Int) : P3 := (g.1, g.2, z)
def ins_nt : NT := []
noncomputable def ins_C : Ctx := ⟨Tryd.prog, ft, tys, [], ins_nt⟩
def ins_t (_k : Nat → Cfg → Option (List RV)) (n : Int) : Option (List RV) := match decide (n ≥ (-10000000)) with | true => some [RV.d .bool (decide (n ≤ 10000000))] | false => some [RV.d .bool false]
theorem ins_eq (k : Nat → Cfg → Option (List RV)) (n : Int) : go Tryd.prog ft tys [] ins_nt k 4000 (start 27 [SI n]) (.node 0) = ins_t k n := by kernel_rfl
theorem ins_s (n : Int) {rX : List RV} (hX : ∃ nX, ins_t (ins_C.k nX) n = some rX) : ins_C.Res 27 [SI n] rX := by
  obtain ⟨nX, hX⟩ := hX
  exact ⟨nX, (ins_eq _ n).trans hX⟩
def mil_nt : NT := []
noncomputable def mil_C : Ctx := ⟨Tryd.prog, ft, tys, [], mil_nt⟩
def mil_t (_k : Nat → Cfg → Option (List RV)) (t : Int × Int × Int × Int × Int × Int × Int × Int) (r : Int) : Option (List RV) := match t.2.1 == 1 with | true => (match decide (t.2.2.1 < r) with | true => some [RV.d .bool (decide ((IntKind.i64.wrap (r - t.2.2.1)) ≤ t.2.2.1))] | false => some [RV.d .bool false]) | false => some [RV.d .bool false]
theorem mil_eq (k : Nat → Cfg → Option (List RV)) (t : Int × Int × Int × Int × Int × Int × Int × Int) (r : Int) : go Tryd.prog ft tys [] mil_nt k 4000 (start 26 [.d (.st (.pair (.int .i64) (.pair (.int .i64) (.pair (.int .i64) (.pair (.int .i64) (.pair (.int .i64) (.pair (.int .i64) (.pair (.int .i64) (.int .i64))))))))) t, SI r]) (.node 0) = mil_t k t r := by kernel_rfl
theorem mil_s (t : Int × Int × Int × Int × Int × Int × Int × Int) (r : Int) {rX : List RV} (hX : ∃ nX, mil_t (mil_C.k nX) t r = some rX) : mil_C.Res 26 [.d (.st (.pair (.int .i64) (.pair (.int .i64) (.pair (.int .i64) (.pair (.int .i64) (.pair (.int .i64) (.pair (.int .i64) (.pair (.int .i64) (.int .i64))))))))) t, SI r] rX := by
  obtain ⟨nX, hX⟩ := hX
  exact ⟨nX, (mil_eq _ t r).trans hX⟩
def bo1_nt : NT := []
noncomputable def bo1_C : Ctx := ⟨Tryd.prog, ft, tys, [], bo1_nt⟩
def bo1_t (_k : Nat → Cfg → Option (List RV)) (g : Int × Int) (z : Int) : Option (List RV) := some [RV.d (.st (.pair (.int .i64) (.pair (.int .i64) (.int .i64)))) (g.1, (g.2, z))]
theorem bo1_eq (k : Nat → Cfg → Option (List RV)) (g : Int × Int) (z : Int) : go Tryd.prog ft tys [] bo1_nt k 4000 (start 28 [.d (.st (.pair (.int .i64) (.int .i64))) g, SI z]) (.node 0) = bo1_t k g z := by kernel_rfl
theorem bo1_s (g : Int × Int) (z : Int) {rX : List RV} (hX : ∃ nX, bo1_t (bo1_C.k nX) g z = some rX) : bo1_C.Res 28 [.d (.st (.pair (.int .i64) (.int .i64))) g, SI z] rX := by
  obtain ⟨nX, hX⟩ := hX
  exact ⟨nX, (bo1_eq _ g z).trans hX⟩
theorem ins_con (n : Int) : Con Tryd.prog 27 [.d (.int .i64) n] [.d .bool (insB2 n)] := by
  refine Ctx.Res.con (C := ins_C) (ctx_ok (E := []) trivial) (ins_s _ ⟨0, ?_⟩) (fn := Tryd.f27) (by kernel_rfl) (by kernel_rfl)
  unfold ins_t insB2
  by_cases h : n ≥ -10000000
  · rw [decide_eq_true h]; rfl
  · rw [decide_eq_false h]; rfl
theorem mil_con (t : T8) (r : Int) : Con Tryd.prog 26 [.d (.st (.pair (.int .i64) (.pair (.int .i64) (.pair (.int .i64) (.pair (.int .i64) (.pair (.int .i64) (.pair (.int .i64) (.pair (.int .i64) (.int .i64))))))))) t, .d (.int .i64) r] [.d .bool (milB t r)] := by
  refine Ctx.Res.con (C := mil_C) (ctx_ok (E := []) trivial) (mil_s _ _ ⟨0, ?_⟩) (fn := Tryd.f26) (by kernel_rfl) (by kernel_rfl)
  unfold mil_t milB
  cases t.2.1 == 1 <;> cases decide (t.2.2.1 < r) <;> rfl
theorem bo1_con (g : Int × Int) (z : Int) : Con Tryd.prog 28 [.d (.st (.pair (.int .i64) (.int .i64))) g, .d (.int .i64) z] [.d (.st (.pair (.int .i64) (.pair (.int .i64) (.int .i64)))) (pos3 g z)] :=
  Ctx.Res.con (C := bo1_C) (ctx_ok (E := []) trivial) (bo1_s _ _ ⟨0, rfl⟩) (fn := Tryd.f28) (by kernel_rfl) (by kernel_rfl)
def ins_sp : Spec := { keep := true, run := fun _ args k => match args with
  | [.d (.int .i64) n] => k [RV.d .bool (insB2 n)]
  | _ => none }
theorem ins_spec : callable Tryd.prog 27 = true ∧ SpecOk Tryd.prog 27 ins_sp ∧ ∀ g, ins_sp.mut_ = some g → MCon Tryd.prog 27 g := by
  refine ⟨by kernel_rfl, fun R args k r h => ?_, fun g h => by simp [ins_sp] at h⟩
  unfold ins_sp at h
  dsimp only at h
  split at h <;> try (cases h; done)
  exact ⟨_, h, ins_con _ ⟩
def mil_sp : Spec := { keep := true, run := fun _ args k => match args with
  | [.d (.st (.pair (.int .i64) (.pair (.int .i64) (.pair (.int .i64) (.pair (.int .i64) (.pair (.int .i64) (.pair (.int .i64) (.pair (.int .i64) (.int .i64))))))))) t, .d (.int .i64) r] => k [RV.d .bool (milB t r)]
  | _ => none }
theorem mil_spec : callable Tryd.prog 26 = true ∧ SpecOk Tryd.prog 26 mil_sp ∧ ∀ g, mil_sp.mut_ = some g → MCon Tryd.prog 26 g := by
  refine ⟨by kernel_rfl, fun R args k r h => ?_, fun g h => by simp [mil_sp] at h⟩
  unfold mil_sp at h
  dsimp only at h
  split at h <;> try (cases h; done)
  exact ⟨_, h, mil_con _ _ ⟩
def bo1_sp : Spec := { keep := true, run := fun _ args k => match args with
  | [.d (.st (.pair (.int .i64) (.int .i64))) g, .d (.int .i64) z] => k [RV.d (.st (.pair (.int .i64) (.pair (.int .i64) (.int .i64)))) (pos3 g z)]
  | _ => none }
theorem bo1_spec : callable Tryd.prog 28 = true ∧ SpecOk Tryd.prog 28 bo1_sp ∧ ∀ g, bo1_sp.mut_ = some g → MCon Tryd.prog 28 g := by
  refine ⟨by kernel_rfl, fun R args k r h => ?_, fun g h => by simp [bo1_sp] at h⟩
  unfold bo1_sp at h
  dsimp only at h
  split at h <;> try (cases h; done)
  exact ⟨_, h, bo1_con _ _ ⟩
def tv_sp : Spec := { keep := true, run := fun _ args k => match args with
  | [.d (.st (.pair (.int .i64) (.pair (.int .i64) (.pair (.int .i64) (.pair (.int .i64) (.pair (.int .i64) (.pair (.int .i64) (.pair (.int .i64) (.int .i64))))))))) t] => match decide (tvP t) with
    | true => k [RV.d (.int .i64) (tvF t)]
    | false => none
  | _ => none }
theorem tv_spec : callable Tryd.prog 25 = true ∧ SpecOk Tryd.prog 25 tv_sp ∧ ∀ g, tv_sp.mut_ = some g → MCon Tryd.prog 25 g := by
  refine ⟨by kernel_rfl, fun R args k r h => ?_, fun g h => by simp [tv_sp] at h⟩
  unfold tv_sp at h
  dsimp only at h
  split at h <;> try (cases h; done)
  split at h <;> try (cases h; done)
  rename_i hd
  exact ⟨_, h, tv_con _ (of_decide_eq_true hd)⟩
def envD6 : Env := [(27, ins_sp), (26, mil_sp), (28, bo1_sp), (25, tv_sp)]
theorem envD6_ok : EnvAll Tryd.prog envD6 := ⟨ins_spec, mil_spec, bo1_spec, tv_spec, trivial⟩
def bor_nt : NT := [((12, 53), { keep := [2, 3, 5, 9, 13, 14, 15, 16, 17], pure_ := [(14, .st (.pair (.int .i64) (.int .i64)))], hl := 4 })]
noncomputable def bor_C : Ctx := ⟨Tryd.prog, ft, tys, envD6, bor_nt⟩
def bor_h53 (g : Int × Int) (radius : Int) (top : Int) (depth : Int) (t : Int × Int × Int × Int × Int × Int × Int × Int) (s17 : Int) (r3 : List (Int × (Int × Int × Int) × (Int × Int) × Int)) : Cfg := ⟨12, [.blk 1, .seq 66], [(2, SI top), (3, SI depth), (5, .box 0 0), (9, .box 1 0), (13, SI (IntKind.i64.wrap (Int.tdiv (IntKind.i64.wrap ((IntKind.i64.wrap (depth + t.2.2.2.2.2.1)) - 1)) t.2.2.2.2.2.1))), (14, .d (.sl (.st (.pair (.int .i64) (.int .i64)))) ([(IntKind.i64.wrap (g.1 + (IntKind.i64.wrap (radius - t.2.2.1))), g.2), (g.1, IntKind.i64.wrap (g.2 + (IntKind.i64.wrap (radius - t.2.2.1)))), (IntKind.i64.wrap (g.1 - (IntKind.i64.wrap (radius - t.2.2.1))), g.2), (g.1, IntKind.i64.wrap (g.2 - (IntKind.i64.wrap (radius - t.2.2.1))))])), (15, .clo 28 []), (16, .own 3), (17, SI s17)], [.box 30 [SI g.1, SI g.2], .box 33 [SI t.1, SI t.2.1, SI t.2.2.1, SI t.2.2.2.1, SI t.2.2.2.2.1, SI t.2.2.2.2.2.1, SI t.2.2.2.2.2.2.1, SI t.2.2.2.2.2.2.2], .gone, .row 48 (.st (.pair (.int .i64) (.pair (.st (.pair (.int .i64) (.pair (.int .i64) (.int .i64)))) (.pair (.st (.pair (.int .i64) (.int .i64))) (.int .i64))))) r3], 0, []⟩
def bor_t (k : Nat → Cfg → Option (List RV)) (g : Int × Int) (radius : Int) (top : Int) (depth : Int) (t : Int × Int × Int × Int × Int × Int × Int × Int) : Option (List RV) := match decide (tvP t) with | true => (match (tvF t) != 0 with | true => some [RV.d (.sl (.st (.pair (.int .i64) (.pair (.st (.pair (.int .i64) (.pair (.int .i64) (.int .i64)))) (.pair (.st (.pair (.int .i64) (.int .i64))) (.int .i64)))))) ([]), RV.d (.int .i64) 1] | false => (match t.2.1 != 1 with | true => some [RV.d (.sl (.st (.pair (.int .i64) (.pair (.st (.pair (.int .i64) (.pair (.int .i64) (.int .i64)))) (.pair (.st (.pair (.int .i64) (.int .i64))) (.int .i64)))))) ([]), RV.d (.int .i64) 1] | false => (match decide (top < 0) with | true => some [RV.d (.sl (.st (.pair (.int .i64) (.pair (.st (.pair (.int .i64) (.pair (.int .i64) (.int .i64)))) (.pair (.st (.pair (.int .i64) (.int .i64))) (.int .i64)))))) ([]), RV.d (.int .i64) 1] | false => (match decide (radius < 1) with | true => some [RV.d (.sl (.st (.pair (.int .i64) (.pair (.st (.pair (.int .i64) (.pair (.int .i64) (.int .i64)))) (.pair (.st (.pair (.int .i64) (.int .i64))) (.int .i64)))))) ([]), RV.d (.int .i64) 1] | false => (match decide (depth < 1) with | true => some [RV.d (.sl (.st (.pair (.int .i64) (.pair (.st (.pair (.int .i64) (.pair (.int .i64) (.int .i64)))) (.pair (.st (.pair (.int .i64) (.int .i64))) (.int .i64)))))) ([]), RV.d (.int .i64) 1] | false => (match decide (t.2.2.2.1 < depth) with | true => some [RV.d (.sl (.st (.pair (.int .i64) (.pair (.st (.pair (.int .i64) (.pair (.int .i64) (.int .i64)))) (.pair (.st (.pair (.int .i64) (.int .i64))) (.int .i64)))))) ([]), RV.d (.int .i64) 16] | false => (match !(milB t radius) with | true => some [RV.d (.sl (.st (.pair (.int .i64) (.pair (.st (.pair (.int .i64) (.pair (.int .i64) (.int .i64)))) (.pair (.st (.pair (.int .i64) (.int .i64))) (.int .i64)))))) ([]), RV.d (.int .i64) 16] | false => (match !(insB2 g.1) with | true => some [RV.d (.sl (.st (.pair (.int .i64) (.pair (.st (.pair (.int .i64) (.pair (.int .i64) (.int .i64)))) (.pair (.st (.pair (.int .i64) (.int .i64))) (.int .i64)))))) ([]), RV.d (.int .i64) 11] | false => (match !(insB2 g.2) with | true => some [RV.d (.sl (.st (.pair (.int .i64) (.pair (.st (.pair (.int .i64) (.pair (.int .i64) (.int .i64)))) (.pair (.st (.pair (.int .i64) (.int .i64))) (.int .i64)))))) ([]), RV.d (.int .i64) 11] | false => (match !(insB2 top) with | true => some [RV.d (.sl (.st (.pair (.int .i64) (.pair (.st (.pair (.int .i64) (.pair (.int .i64) (.int .i64)))) (.pair (.st (.pair (.int .i64) (.int .i64))) (.int .i64)))))) ([]), RV.d (.int .i64) 11] | false => (match !(insB2 depth) with | true => some [RV.d (.sl (.st (.pair (.int .i64) (.pair (.st (.pair (.int .i64) (.pair (.int .i64) (.int .i64)))) (.pair (.st (.pair (.int .i64) (.int .i64))) (.int .i64)))))) ([]), RV.d (.int .i64) 11] | false => (match !(insB2 (IntKind.i64.wrap (g.1 + (IntKind.i64.wrap (radius - t.2.2.1))))) with | true => some [RV.d (.sl (.st (.pair (.int .i64) (.pair (.st (.pair (.int .i64) (.pair (.int .i64) (.int .i64)))) (.pair (.st (.pair (.int .i64) (.int .i64))) (.int .i64)))))) ([]), RV.d (.int .i64) 11] | false => (match !(insB2 (IntKind.i64.wrap (g.1 - (IntKind.i64.wrap (radius - t.2.2.1))))) with | true => some [RV.d (.sl (.st (.pair (.int .i64) (.pair (.st (.pair (.int .i64) (.pair (.int .i64) (.int .i64)))) (.pair (.st (.pair (.int .i64) (.int .i64))) (.int .i64)))))) ([]), RV.d (.int .i64) 11] | false => (match !(insB2 (IntKind.i64.wrap (g.2 + (IntKind.i64.wrap (radius - t.2.2.1))))) with | true => some [RV.d (.sl (.st (.pair (.int .i64) (.pair (.st (.pair (.int .i64) (.pair (.int .i64) (.int .i64)))) (.pair (.st (.pair (.int .i64) (.int .i64))) (.int .i64)))))) ([]), RV.d (.int .i64) 11] | false => (match !(insB2 (IntKind.i64.wrap (g.2 - (IntKind.i64.wrap (radius - t.2.2.1))))) with | true => some [RV.d (.sl (.st (.pair (.int .i64) (.pair (.st (.pair (.int .i64) (.pair (.int .i64) (.int .i64)))) (.pair (.st (.pair (.int .i64) (.int .i64))) (.int .i64)))))) ([]), RV.d (.int .i64) 11] | false => (match decide (t.2.2.2.2.2.1 = (0 : Int)) with | true => none | false => (match decide ((IntKind.i64.wrap ((IntKind.i64.wrap (4 * (IntKind.i64.wrap (Int.tdiv (IntKind.i64.wrap ((IntKind.i64.wrap (depth + t.2.2.2.2.2.1)) - 1)) t.2.2.2.2.2.1)))) + 4)) > 20000) with | true => some [RV.d (.sl (.st (.pair (.int .i64) (.pair (.st (.pair (.int .i64) (.pair (.int .i64) (.int .i64)))) (.pair (.st (.pair (.int .i64) (.int .i64))) (.int .i64)))))) ([]), RV.d (.int .i64) 3] | false => (match getI ([(IntKind.i64.wrap (g.1 + (IntKind.i64.wrap (radius - t.2.2.1))), g.2), (g.1, IntKind.i64.wrap (g.2 + (IntKind.i64.wrap (radius - t.2.2.1)))), (IntKind.i64.wrap (g.1 - (IntKind.i64.wrap (radius - t.2.2.1))), g.2), (g.1, IntKind.i64.wrap (g.2 - (IntKind.i64.wrap (radius - t.2.2.1))))]) 0 with | some _ => (match true, ([(IntKind.i64.wrap (g.1 + (IntKind.i64.wrap (radius - t.2.2.1))), g.2), (g.1, IntKind.i64.wrap (g.2 + (IntKind.i64.wrap (radius - t.2.2.1)))), (IntKind.i64.wrap (g.1 - (IntKind.i64.wrap (radius - t.2.2.1))), g.2), (g.1, IntKind.i64.wrap (g.2 - (IntKind.i64.wrap (radius - t.2.2.1))))])[0]? with | true, some x1 => k 53 (bor_h53 g radius top depth t 1 ([(2, (((pos3 x1 (0 : Int)).1, ((pos3 x1 (0 : Int)).2)), ((0, 0), t.2.2.2.2.2.2.2)))])) | _, _ => none) | none => none)))))))))))))))))) | false => none
theorem bor_eq (k : Nat → Cfg → Option (List RV)) (g : Int × Int) (radius : Int) (top : Int) (depth : Int) (t : Int × Int × Int × Int × Int × Int × Int × Int) : go Tryd.prog ft tys envD6 bor_nt k 4000 (start 12 [.d (.st (.pair (.int .i64) (.int .i64))) g, SI radius, SI top, SI depth, .d (.st (.pair (.int .i64) (.pair (.int .i64) (.pair (.int .i64) (.pair (.int .i64) (.pair (.int .i64) (.pair (.int .i64) (.pair (.int .i64) (.int .i64))))))))) t]) (.node 0) = bor_t k g radius top depth t := by kernel_rfl
theorem bor_s (g : Int × Int) (radius : Int) (top : Int) (depth : Int) (t : Int × Int × Int × Int × Int × Int × Int × Int) {rX : List RV} (hX : ∃ nX, bor_t (bor_C.k nX) g radius top depth t = some rX) : bor_C.Res 12 [.d (.st (.pair (.int .i64) (.int .i64))) g, SI radius, SI top, SI depth, .d (.st (.pair (.int .i64) (.pair (.int .i64) (.pair (.int .i64) (.pair (.int .i64) (.pair (.int .i64) (.pair (.int .i64) (.pair (.int .i64) (.int .i64))))))))) t] rX := by
  obtain ⟨nX, hX⟩ := hX
  exact ⟨nX, (bor_eq _ g radius top depth t).trans hX⟩
def bor_h53_t (k : Nat → Cfg → Option (List RV)) (g : Int × Int) (radius : Int) (top : Int) (depth : Int) (t : Int × Int × Int × Int × Int × Int × Int × Int) (s17 : Int) (r3 : List (Int × (Int × Int × Int) × (Int × Int) × Int)) : Option (List RV) := match decide (s17 ≤ (IntKind.i64.wrap (4 * (IntKind.i64.wrap (Int.tdiv (IntKind.i64.wrap ((IntKind.i64.wrap (depth + t.2.2.2.2.2.1)) - 1)) t.2.2.2.2.2.1))))) with | true => (match decide (IntKind.i64.wrap (4 * (IntKind.i64.wrap (Int.tdiv (IntKind.i64.wrap ((IntKind.i64.wrap (depth + t.2.2.2.2.2.1)) - 1)) t.2.2.2.2.2.1))) = (0 : Int)) with | true => none | false => (match getI ([(IntKind.i64.wrap (g.1 + (IntKind.i64.wrap (radius - t.2.2.1))), g.2), (g.1, IntKind.i64.wrap (g.2 + (IntKind.i64.wrap (radius - t.2.2.1)))), (IntKind.i64.wrap (g.1 - (IntKind.i64.wrap (radius - t.2.2.1))), g.2), (g.1, IntKind.i64.wrap (g.2 - (IntKind.i64.wrap (radius - t.2.2.1))))]) (Int.tmod s17 4) with | some x2 => (match decide ((r3.length + ([(4, (((pos3 x2 (IntKind.i64.wrap (0 - (IntKind.i64.wrap (Int.tdiv (IntKind.i64.wrap ((IntKind.i64.wrap ((IntKind.i64.wrap (s17 * depth)) + (IntKind.i64.wrap (4 * (IntKind.i64.wrap (Int.tdiv (IntKind.i64.wrap ((IntKind.i64.wrap (depth + t.2.2.2.2.2.1)) - 1)) t.2.2.2.2.2.1)))))) - 1)) (IntKind.i64.wrap (4 * (IntKind.i64.wrap (Int.tdiv (IntKind.i64.wrap ((IntKind.i64.wrap (depth + t.2.2.2.2.2.1)) - 1)) t.2.2.2.2.2.1))))))))).1, ((pos3 x2 (IntKind.i64.wrap (0 - (IntKind.i64.wrap (Int.tdiv (IntKind.i64.wrap ((IntKind.i64.wrap ((IntKind.i64.wrap (s17 * depth)) + (IntKind.i64.wrap (4 * (IntKind.i64.wrap (Int.tdiv (IntKind.i64.wrap ((IntKind.i64.wrap (depth + t.2.2.2.2.2.1)) - 1)) t.2.2.2.2.2.1)))))) - 1)) (IntKind.i64.wrap (4 * (IntKind.i64.wrap (Int.tdiv (IntKind.i64.wrap ((IntKind.i64.wrap (depth + t.2.2.2.2.2.1)) - 1)) t.2.2.2.2.2.1))))))))).2)), (g, t.2.2.2.2.2.2.1)))]).length) * 56 ≤ 140737488355328 ∧ r3.length + ([(4, (((pos3 x2 (IntKind.i64.wrap (0 - (IntKind.i64.wrap (Int.tdiv (IntKind.i64.wrap ((IntKind.i64.wrap ((IntKind.i64.wrap (s17 * depth)) + (IntKind.i64.wrap (4 * (IntKind.i64.wrap (Int.tdiv (IntKind.i64.wrap ((IntKind.i64.wrap (depth + t.2.2.2.2.2.1)) - 1)) t.2.2.2.2.2.1)))))) - 1)) (IntKind.i64.wrap (4 * (IntKind.i64.wrap (Int.tdiv (IntKind.i64.wrap ((IntKind.i64.wrap (depth + t.2.2.2.2.2.1)) - 1)) t.2.2.2.2.2.1))))))))).1, ((pos3 x2 (IntKind.i64.wrap (0 - (IntKind.i64.wrap (Int.tdiv (IntKind.i64.wrap ((IntKind.i64.wrap ((IntKind.i64.wrap (s17 * depth)) + (IntKind.i64.wrap (4 * (IntKind.i64.wrap (Int.tdiv (IntKind.i64.wrap ((IntKind.i64.wrap (depth + t.2.2.2.2.2.1)) - 1)) t.2.2.2.2.2.1)))))) - 1)) (IntKind.i64.wrap (4 * (IntKind.i64.wrap (Int.tdiv (IntKind.i64.wrap ((IntKind.i64.wrap (depth + t.2.2.2.2.2.1)) - 1)) t.2.2.2.2.2.1))))))))).2)), (g, t.2.2.2.2.2.2.1)))]).length ≤ 140737488355328) with | true => k 53 (bor_h53 g radius top depth t (IntKind.i64.wrap (s17 + 1)) (r3 ++ ([(4, (((pos3 x2 (IntKind.i64.wrap (0 - (IntKind.i64.wrap (Int.tdiv (IntKind.i64.wrap ((IntKind.i64.wrap ((IntKind.i64.wrap (s17 * depth)) + (IntKind.i64.wrap (4 * (IntKind.i64.wrap (Int.tdiv (IntKind.i64.wrap ((IntKind.i64.wrap (depth + t.2.2.2.2.2.1)) - 1)) t.2.2.2.2.2.1)))))) - 1)) (IntKind.i64.wrap (4 * (IntKind.i64.wrap (Int.tdiv (IntKind.i64.wrap ((IntKind.i64.wrap (depth + t.2.2.2.2.2.1)) - 1)) t.2.2.2.2.2.1))))))))).1, ((pos3 x2 (IntKind.i64.wrap (0 - (IntKind.i64.wrap (Int.tdiv (IntKind.i64.wrap ((IntKind.i64.wrap ((IntKind.i64.wrap (s17 * depth)) + (IntKind.i64.wrap (4 * (IntKind.i64.wrap (Int.tdiv (IntKind.i64.wrap ((IntKind.i64.wrap (depth + t.2.2.2.2.2.1)) - 1)) t.2.2.2.2.2.1)))))) - 1)) (IntKind.i64.wrap (4 * (IntKind.i64.wrap (Int.tdiv (IntKind.i64.wrap ((IntKind.i64.wrap (depth + t.2.2.2.2.2.1)) - 1)) t.2.2.2.2.2.1))))))))).2)), (g, t.2.2.2.2.2.2.1)))]))) | false => none) | none => none)) | false => (match getI ([(IntKind.i64.wrap (g.1 + (IntKind.i64.wrap (radius - t.2.2.1))), g.2), (g.1, IntKind.i64.wrap (g.2 + (IntKind.i64.wrap (radius - t.2.2.1)))), (IntKind.i64.wrap (g.1 - (IntKind.i64.wrap (radius - t.2.2.1))), g.2), (g.1, IntKind.i64.wrap (g.2 - (IntKind.i64.wrap (radius - t.2.2.1))))]) 0 with | some x3 => (match decide ((r3.length + ([(4, (((pos3 x3 (IntKind.i64.wrap (0 - depth))).1, ((pos3 x3 (IntKind.i64.wrap (0 - depth))).2)), (g, t.2.2.2.2.2.2.1))), (2, (((pos3 g (IntKind.i64.wrap (0 - depth))).1, ((pos3 g (IntKind.i64.wrap (0 - depth))).2)), ((0, 0), t.2.2.2.2.2.2.1))), (1, (((pos3 g top).1, ((pos3 g top).2)), ((0, 0), 0)))]).length) * 56 ≤ 140737488355328 ∧ r3.length + ([(4, (((pos3 x3 (IntKind.i64.wrap (0 - depth))).1, ((pos3 x3 (IntKind.i64.wrap (0 - depth))).2)), (g, t.2.2.2.2.2.2.1))), (2, (((pos3 g (IntKind.i64.wrap (0 - depth))).1, ((pos3 g (IntKind.i64.wrap (0 - depth))).2)), ((0, 0), t.2.2.2.2.2.2.1))), (1, (((pos3 g top).1, ((pos3 g top).2)), ((0, 0), 0)))]).length ≤ 140737488355328) with | true => some [RV.d (.sl (.st (.pair (.int .i64) (.pair (.st (.pair (.int .i64) (.pair (.int .i64) (.int .i64)))) (.pair (.st (.pair (.int .i64) (.int .i64))) (.int .i64)))))) (r3 ++ ([(4, (((pos3 x3 (IntKind.i64.wrap (0 - depth))).1, ((pos3 x3 (IntKind.i64.wrap (0 - depth))).2)), (g, t.2.2.2.2.2.2.1))), (2, (((pos3 g (IntKind.i64.wrap (0 - depth))).1, ((pos3 g (IntKind.i64.wrap (0 - depth))).2)), ((0, 0), t.2.2.2.2.2.2.1))), (1, (((pos3 g top).1, ((pos3 g top).2)), ((0, 0), 0)))])), RV.d (.int .i64) 0] | false => none) | none => none)
theorem bor_h53_eq (k : Nat → Cfg → Option (List RV)) (g : Int × Int) (radius : Int) (top : Int) (depth : Int) (t : Int × Int × Int × Int × Int × Int × Int × Int) (s17 : Int) (r3 : List (Int × (Int × Int × Int) × (Int × Int) × Int)) : go Tryd.prog ft tys envD6 bor_nt k 4000 { bor_h53 g radius top depth t s17 r3 with K := .lp 53 :: (bor_h53 g radius top depth t s17 r3).K } (.node 54) = bor_h53_t k g radius top depth t s17 r3 := by kernel_rfl
theorem bor_h53_s (g : Int × Int) (radius : Int) (top : Int) (depth : Int) (t : Int × Int × Int × Int × Int × Int × Int × Int) (s17 : Int) (r3 : List (Int × (Int × Int × Int) × (Int × Int) × Int)) {rX : List RV} (hX : ∃ nX, bor_h53_t (bor_C.k nX) g radius top depth t s17 r3 = some rX) : bor_C.Runs 53 (bor_h53 g radius top depth t s17 r3) rX := by
  obtain ⟨nX, hX⟩ := hX
  exact ⟨nX + 1, (bor_h53_eq _ g radius top depth t s17 r3).trans hX⟩
end Go.Proofs.YtpiabmjipgfjjaaDoor

/- The law DrillInside returns true. -/
import Derived.Test.YtpiabmjipgfjjaaDoorDi8
namespace Go.Proofs.YtpiabmjipgfjjaaDoor
open Go.RowKit

def tlA : T8 := (1, 1, 3000, 20000, 10000, 1500, 20000, 5000)
def tlB : T8 := (1, 1, 2000, 20000, 9000, 1500, 20000, 5000)
def exL (t : T8) : List Mq := if t.2.2.1 = 3000 then (List.range 12).map (bmv (0, 0) 2000 3000 0 20000 5000 2) else []
def exE (t : T8) : Int := if t.2.2.1 = 3000 then 0 else 16
def exP (g : Int × Int) (radius top depth : Int) (t : T8) : Prop := g.1 = 0 ∧ g.2 = 0 ∧ radius = 5000 ∧ top = 0 ∧ depth = 3000 ∧ t.1 = 1 ∧ t.2.1 = 1 ∧ t.2.2.2.1 = 20000 ∧ t.2.2.2.2.2.1 = 1500 ∧ t.2.2.2.2.2.2.1 = 20000 ∧ t.2.2.2.2.2.2.2 = 5000 ∧ (t.2.2.1 = 3000 ∧ t.2.2.2.2.1 = 10000 ∨ t.2.2.1 = 2000 ∧ t.2.2.2.2.1 = 9000)
instance (g : Int × Int) (radius top depth : Int) (t : T8) : Decidable (exP g radius top depth t) := by unfold exP; infer_instance
set_option maxRecDepth 1000000 in
theorem exb_con (g : Int × Int) (radius top depth : Int) (t : T8) (h : exP g radius top depth t) : Con Tryd.prog 12 [.d (.st (.pair (.int .i64) (.int .i64))) g, .d (.int .i64) radius, .d (.int .i64) top, .d (.int .i64) depth, .d (.st (.pair (.int .i64) (.pair (.int .i64) (.pair (.int .i64) (.pair (.int .i64) (.pair (.int .i64) (.pair (.int .i64) (.pair (.int .i64) (.int .i64))))))))) t] [.d (.sl (.st (.pair (.int .i64) (.pair (.st (.pair (.int .i64) (.pair (.int .i64) (.int .i64)))) (.pair (.st (.pair (.int .i64) (.int .i64))) (.int .i64)))))) (exL t), .d (.int .i64) (exE t)] := by
  obtain ⟨g1, g2⟩ := g
  obtain ⟨t1, t2, t3, t4, t5, t6, t7, t8⟩ := t
  obtain ⟨h1, h2, rfl, rfl, rfl, h3, h4, h5, h6, h7, h8, ⟨h9, h10⟩ | ⟨h9, h10⟩⟩ := h <;> dsimp only at h1 h2 h3 h4 h5 h6 h7 h8 h9 h10 <;> subst h1 h2 h3 h4 h5 h6 h7 h8 h9 h10
  · exact Ctx.Res.con (C := bor_C) (ctx_ok envD6_ok) ⟨20, by kernel_rfl⟩ (fn := Tryd.f12) (by kernel_rfl) (by kernel_rfl)
  · exact Ctx.Res.con (C := bor_C) (ctx_ok envD6_ok) ⟨20, by kernel_rfl⟩ (fn := Tryd.f12) (by kernel_rfl) (by kernel_rfl)
def exb_sp : Spec := { keep := false, run := fun _ args k => match args with
  | [.d (.st (.pair (.int .i64) (.int .i64))) g, .d (.int .i64) radius, .d (.int .i64) top, .d (.int .i64) depth, .d (.st (.pair (.int .i64) (.pair (.int .i64) (.pair (.int .i64) (.pair (.int .i64) (.pair (.int .i64) (.pair (.int .i64) (.pair (.int .i64) (.int .i64))))))))) t] => match decide (exP g radius top depth t) with
    | true => k [RV.d (.sl (.st (.pair (.int .i64) (.pair (.st (.pair (.int .i64) (.pair (.int .i64) (.int .i64)))) (.pair (.st (.pair (.int .i64) (.int .i64))) (.int .i64)))))) (exL t), RV.d (.int .i64) (exE t)]
    | false => none
  | _ => none }
theorem exb_spec : callable Tryd.prog 12 = true ∧ SpecOk Tryd.prog 12 exb_sp ∧ ∀ g, exb_sp.mut_ = some g → MCon Tryd.prog 12 g := by
  refine ⟨by kernel_rfl, fun R args k r h => ?_, fun g h => by simp [exb_sp] at h⟩
  unfold exb_sp at h
  dsimp only at h
  split at h <;> try (cases h; done)
  split at h <;> try (cases h; done)
  rename_i hd
  exact ⟨_, h, exb_con _ _ _ _ _ (of_decide_eq_true hd)⟩
def envAw : Env := [(12, exb_sp)]
theorem envAw_ok : EnvAll Tryd.prog envAw := ⟨exb_spec, trivial⟩
noncomputable def ctxAw : Ctx := ⟨Tryd.prog, ft, tys, envAw, []⟩
set_option maxRecDepth 1000000 in
theorem awk_con : Con Tryd.prog 8 [] [.d .bool true] :=
  Ctx.Res.con (C := ctxAw) (ctx_ok envAw_ok) ⟨40, by kernel_rfl⟩ (fn := Tryd.f8) (by kernel_rfl) (by kernel_rfl)
noncomputable def awk_sp : Spec := { keep := true, run := fun _ args k => match args with
  | [] => k [RV.d .bool true]
  | _ => none }
theorem awk_spec : callable Tryd.prog 8 = true ∧ SpecOk Tryd.prog 8 awk_sp ∧ ∀ g, awk_sp.mut_ = some g → MCon Tryd.prog 8 g := by
  refine ⟨by kernel_rfl, fun R args k r h => ?_, fun g h => by simp [awk_sp] at h⟩
  unfold awk_sp at h
  dsimp only at h
  split at h <;> try (cases h; done)
  exact ⟨_, h, awk_con ⟩

noncomputable def bor_sp : Spec := { keep := false, run := fun _ args k => match args with
  | [.d (.st (.pair (.int .i64) (.int .i64))) g, .d (.int .i64) radius, .d (.int .i64) top, .d (.int .i64) depth, .d (.st (.pair (.int .i64) (.pair (.int .i64) (.pair (.int .i64) (.pair (.int .i64) (.pair (.int .i64) (.pair (.int .i64) (.pair (.int .i64) (.int .i64))))))))) t] => match decide (borP g radius top depth t) with
    | true => k [RV.d (.sl (.st (.pair (.int .i64) (.pair (.st (.pair (.int .i64) (.pair (.int .i64) (.int .i64)))) (.pair (.st (.pair (.int .i64) (.int .i64))) (.int .i64)))))) (borL g radius top depth t), RV.d (.int .i64) (borE g radius top depth t)]
    | false => none
  | _ => none }
theorem bor_spec : callable Tryd.prog 12 = true ∧ SpecOk Tryd.prog 12 bor_sp ∧ ∀ g, bor_sp.mut_ = some g → MCon Tryd.prog 12 g := by
  refine ⟨by kernel_rfl, fun R args k r h => ?_, fun g h => by simp [bor_sp] at h⟩
  unfold bor_sp at h
  dsimp only at h
  split at h <;> try (cases h; done)
  split at h <;> try (cases h; done)
  rename_i hd
  exact ⟨_, h, bor_con _ _ _ _ _ (of_decide_eq_true hd)⟩

noncomputable def pos_sp : Spec := { keep := false, run := fun _ args k => match args with
  | [.d (.st (.pair (.int .i64) (.pair (.int .i64) (.int .i64)))) p, .d (.sl (.st (.pair (.int .i64) (.pair (.st (.pair (.int .i64) (.pair (.int .i64) (.int .i64)))) (.pair (.st (.pair (.int .i64) (.int .i64))) (.int .i64)))))) l] => match decide (posOk p l) with
    | true => k [RV.d (.sl (.st (.pair (.int .i64) (.pair (.int .i64) (.int .i64))))) (posL p l), RV.d (.int .i64) 0]
    | false => none
  | _ => none }
theorem pos_spec : callable Tryd.prog 22 = true ∧ SpecOk Tryd.prog 22 pos_sp ∧ ∀ g, pos_sp.mut_ = some g → MCon Tryd.prog 22 g := by
  refine ⟨by kernel_rfl, fun R args k r h => ?_, fun g h => by simp [pos_sp] at h⟩
  unfold pos_sp at h
  dsimp only at h
  split at h <;> try (cases h; done)
  split at h <;> try (cases h; done)
  rename_i hd
  exact ⟨_, h, pos_con _ _ (of_decide_eq_true hd)⟩

noncomputable def envLI : Env := [(8, awk_sp), (12, bor_sp), (21, iva_sp), (23, qua_sp), (22, pos_sp)]
theorem envLI_ok : EnvAll Tryd.prog envLI := ⟨awk_spec, bor_spec, iva_spec, qua_spec, pos_spec, trivial⟩
def lawI_nt : NT := [((7, 28), { keep := [3, 4, 5, 7, 9, 10, 66, 67, 68], hl := 4 }), ((7, 61), { keep := [3, 4, 5, 7, 9, 10, 12, 66, 67, 68, 112, 113, 114], hl := 5 })]
noncomputable def lawI_C : Ctx := ⟨Tryd.prog, ft, tys, envLI, lawI_nt⟩
noncomputable def lawI_h28 (g : Int × Int) (n : Int × Int × Int) (t : Int × Int × Int × Int × Int × Int × Int × Int) (s68 : Int) (b3_0 : Int) (b3_1 : Int) (b3_2 : Int) : Cfg := ⟨7, [.blk 0, .seq 84], [(3, .box 0 0), (4, .box 1 0), (5, .box 2 0), (7, .d (.sl (.st (.pair (.int .i64) (.pair (.st (.pair (.int .i64) (.pair (.int .i64) (.int .i64)))) (.pair (.st (.pair (.int .i64) (.int .i64))) (.int .i64)))))) (borL g n.1 n.2.1 n.2.2 t)), (9, SI (IntKind.i64.wrap (n.1 - t.2.2.1))), (10, .box 3 0), (66, .d (.sl (.st (.pair (.int .i64) (.pair (.st (.pair (.int .i64) (.pair (.int .i64) (.int .i64)))) (.pair (.st (.pair (.int .i64) (.int .i64))) (.int .i64)))))) (borL g n.1 n.2.1 n.2.2 t)), (67, SI ((borL g n.1 n.2.1 n.2.2 t).length : Int)), (68, SI s68)], [.box 30 [SI g.1, SI g.2], .box 31 [SI n.1, SI n.2.1, SI n.2.2], .box 33 [SI t.1, SI t.2.1, SI t.2.2.1, SI t.2.2.2.1, SI t.2.2.2.2.1, SI t.2.2.2.2.2.1, SI t.2.2.2.2.2.2.1, SI t.2.2.2.2.2.2.2], .box 46 [SI b3_0, SI b3_1, SI b3_2]], 0, []⟩
noncomputable def lawI_h61 (g : Int × Int) (n : Int × Int × Int) (t : Int × Int × Int × Int × Int × Int × Int × Int) (s68 : Int) (b3_0 : Int) (b3_1 : Int) (b3_2 : Int) (x1 : Int × (Int × Int × Int) × (Int × Int) × Int) (s114 : Int) : Cfg := ⟨7, [.blk 2, .seq 82, .blk 1, .seq 83, .lp 28, .blk 0, .seq 84], [(3, .box 0 0), (4, .box 1 0), (5, .box 2 0), (7, .d (.sl (.st (.pair (.int .i64) (.pair (.st (.pair (.int .i64) (.pair (.int .i64) (.int .i64)))) (.pair (.st (.pair (.int .i64) (.int .i64))) (.int .i64)))))) (borL g n.1 n.2.1 n.2.2 t)), (9, SI (IntKind.i64.wrap (n.1 - t.2.2.1))), (10, .box 3 0), (12, .box 4 0), (66, .d (.sl (.st (.pair (.int .i64) (.pair (.st (.pair (.int .i64) (.pair (.int .i64) (.int .i64)))) (.pair (.st (.pair (.int .i64) (.int .i64))) (.int .i64)))))) (borL g n.1 n.2.1 n.2.2 t)), (67, SI ((borL g n.1 n.2.1 n.2.2 t).length : Int)), (68, SI s68), (112, .d (.sl (.st (.pair (.int .i64) (.pair (.int .i64) (.int .i64))))) (posL (b3_0, (b3_1, b3_2)) ([x1]))), (113, SI ((posL (b3_0, (b3_1, b3_2)) ([x1])).length : Int)), (114, SI s114)], [.box 30 [SI g.1, SI g.2], .box 31 [SI n.1, SI n.2.1, SI n.2.2], .box 33 [SI t.1, SI t.2.1, SI t.2.2.1, SI t.2.2.2.1, SI t.2.2.2.2.1, SI t.2.2.2.2.2.1, SI t.2.2.2.2.2.2.1, SI t.2.2.2.2.2.2.2], .box 46 [SI b3_0, SI b3_1, SI b3_2], .box 48 [SI x1.1, SI x1.2.1.1, SI x1.2.1.2.1, SI x1.2.1.2.2, SI x1.2.2.1.1, SI x1.2.2.1.2, SI x1.2.2.2]], 0, []⟩
noncomputable def lawI_t (k : Nat → Cfg → Option (List RV)) (g : Int × Int) (n : Int × Int × Int) (t : Int × Int × Int × Int × Int × Int × Int × Int) : Option (List RV) := match !true with | true => some [RV.d .bool true] | false => (match decide (n.2.2 > 20000) with | true => some [RV.d .bool true] | false => (match decide (t.2.2.2.2.2.1 < 500) with | true => some [RV.d .bool true] | false => (match decide (borP g n.1 n.2.1 n.2.2 t) with | true => (match (borE g n.1 n.2.1 n.2.2 t) != 0 with | true => some [RV.d .bool (((borL g n.1 n.2.1 n.2.2 t).length : Int) == 0)] | false => k 28 (lawI_h28 g n t 0 (IntKind.i64.wrap (g.1 + (IntKind.i64.wrap (n.1 - t.2.2.1)))) g.2 n.2.1)) | false => none)))
theorem lawI_eq (k : Nat → Cfg → Option (List RV)) (g : Int × Int) (n : Int × Int × Int) (t : Int × Int × Int × Int × Int × Int × Int × Int) : go Tryd.prog ft tys envLI lawI_nt k 4000 (start 7 [.d (.st (.pair (.int .i64) (.int .i64))) g, .d (.st (.pair (.int .i64) (.pair (.int .i64) (.int .i64)))) n, .d (.st (.pair (.int .i64) (.pair (.int .i64) (.pair (.int .i64) (.pair (.int .i64) (.pair (.int .i64) (.pair (.int .i64) (.pair (.int .i64) (.int .i64))))))))) t]) (.node 0) = lawI_t k g n t := by kernel_rfl
theorem lawI_s (g : Int × Int) (n : Int × Int × Int) (t : Int × Int × Int × Int × Int × Int × Int × Int) {rX : List RV} (hX : ∃ nX, lawI_t (lawI_C.k nX) g n t = some rX) : lawI_C.Res 7 [.d (.st (.pair (.int .i64) (.int .i64))) g, .d (.st (.pair (.int .i64) (.pair (.int .i64) (.int .i64)))) n, .d (.st (.pair (.int .i64) (.pair (.int .i64) (.pair (.int .i64) (.pair (.int .i64) (.pair (.int .i64) (.pair (.int .i64) (.pair (.int .i64) (.int .i64))))))))) t] rX := by
  obtain ⟨nX, hX⟩ := hX
  exact ⟨nX, (lawI_eq _ g n t).trans hX⟩
noncomputable def lawI_h28_t (k : Nat → Cfg → Option (List RV)) (g : Int × Int) (n : Int × Int × Int) (t : Int × Int × Int × Int × Int × Int × Int × Int) (s68 : Int) (b3_0 : Int) (b3_1 : Int) (b3_2 : Int) : Option (List RV) := match decide (s68 < ((borL g n.1 n.2.1 n.2.2 t).length : Int)) with | true => (match getI (borL g n.1 n.2.1 n.2.2 t) s68 with | some x1 => (match decide (mvOk (b3_0, (b3_1, b3_2)) x1) with | true => (match 0 != 0 with | true => dup (.b (.b .l .l) (.b (.b .l .l) (.b .l .l))) (some [RV.d .bool false]) | false => (match decide (s68 ≥ 4) with | true => (match x1.1 == 4 with | true => (match getI (borL g n.1 n.2.1 n.2.2 t) (IntKind.i64.wrap (s68 - 4)) with | some x2 => dup (.b (.b .l .l) (.b (.b .l .l) (.b .l .l))) (match decide ((IntKind.i64.wrap (x2.2.1.2.2 - x1.2.1.2.2)) > (IntKind.i64.wrap (t.2.2.2.2.2.1 + 1))) with | true => some [RV.d .bool false] | false => (match decide (posOk (b3_0, (b3_1, b3_2)) ([x1])) with | true => (match 0 != 0 with | true => some [RV.d .bool false] | false => k 61 (lawI_h61 g n t s68 b3_0 b3_1 b3_2 x1 0)) | false => none)) | none => none) | false => dup (.b (.b .l .l) (.b (.b .l .l) (.b .l .l))) (match decide (posOk (b3_0, (b3_1, b3_2)) ([x1])) with | true => (match 0 != 0 with | true => some [RV.d .bool false] | false => k 61 (lawI_h61 g n t s68 b3_0 b3_1 b3_2 x1 0)) | false => none)) | false => dup (.b (.b .l .l) (.b (.b .l .l) (.b .l .l))) (match decide (posOk (b3_0, (b3_1, b3_2)) ([x1])) with | true => (match 0 != 0 with | true => some [RV.d .bool false] | false => k 61 (lawI_h61 g n t s68 b3_0 b3_1 b3_2 x1 0)) | false => none))) | false => none) | none => none) | false => (match decide (((borL g n.1 n.2.1 n.2.2 t).length : Int) < 4) with | true => some [RV.d .bool false] | false => (match getI (borL g n.1 n.2.1 n.2.2 t) (IntKind.i64.wrap (((borL g n.1 n.2.1 n.2.2 t).length : Int) - 3)) with | some x3 => (match getI (borL g n.1 n.2.1 n.2.2 t) (IntKind.i64.wrap (((borL g n.1 n.2.1 n.2.2 t).length : Int) - 4)) with | some x4 => (match decide (quOk x4.2.1 x3) with | true => (match 0 == 0 with | true => (match (quF x4.2.1 x3) == 4 with | true => (match x3.2.1.2.2 == (IntKind.i64.wrap (0 - n.2.2)) with | true => (match getI (borL g n.1 n.2.1 n.2.2 t) (IntKind.i64.wrap (((borL g n.1 n.2.1 n.2.2 t).length : Int) - 4)) with | some x5 => some [RV.d .bool (x5.2.1.2.2 == (IntKind.i64.wrap (0 - n.2.2)))] | none => none) | false => some [RV.d .bool false]) | false => some [RV.d .bool false]) | false => some [RV.d .bool false]) | false => none) | none => none) | none => none))
theorem lawI_h28_eq (k : Nat → Cfg → Option (List RV)) (g : Int × Int) (n : Int × Int × Int) (t : Int × Int × Int × Int × Int × Int × Int × Int) (s68 : Int) (b3_0 : Int) (b3_1 : Int) (b3_2 : Int) : go Tryd.prog ft tys envLI lawI_nt k 4000 { lawI_h28 g n t s68 b3_0 b3_1 b3_2 with K := .lp 28 :: (lawI_h28 g n t s68 b3_0 b3_1 b3_2).K } (.node 29) = lawI_h28_t k g n t s68 b3_0 b3_1 b3_2 := by kernel_rfl
theorem lawI_h28_s (g : Int × Int) (n : Int × Int × Int) (t : Int × Int × Int × Int × Int × Int × Int × Int) (s68 : Int) (b3_0 : Int) (b3_1 : Int) (b3_2 : Int) {rX : List RV} (hX : ∃ nX, lawI_h28_t (lawI_C.k nX) g n t s68 b3_0 b3_1 b3_2 = some rX) : lawI_C.Runs 28 (lawI_h28 g n t s68 b3_0 b3_1 b3_2) rX := by
  obtain ⟨nX, hX⟩ := hX
  exact ⟨nX + 1, (lawI_h28_eq _ g n t s68 b3_0 b3_1 b3_2).trans hX⟩
noncomputable def lawI_h61_t (k : Nat → Cfg → Option (List RV)) (g : Int × Int) (n : Int × Int × Int) (t : Int × Int × Int × Int × Int × Int × Int × Int) (s68 : Int) (b3_0 : Int) (b3_1 : Int) (b3_2 : Int) (x1 : Int × (Int × Int × Int) × (Int × Int) × Int) (s114 : Int) : Option (List RV) := match decide (s114 < ((posL (b3_0, (b3_1, b3_2)) ([x1])).length : Int)) with | true => (match getI (posL (b3_0, (b3_1, b3_2)) ([x1])) s114 with | some x6 => (match decide ((IntKind.i64.wrap ((IntKind.i64.wrap ((IntKind.i64.wrap (x6.1 - g.1)) * (IntKind.i64.wrap (x6.1 - g.1)))) + (IntKind.i64.wrap ((IntKind.i64.wrap (x6.2.1 - g.2)) * (IntKind.i64.wrap (x6.2.1 - g.2)))))) > (IntKind.i64.wrap ((IntKind.i64.wrap (n.1 - t.2.2.1)) * (IntKind.i64.wrap (n.1 - t.2.2.1))))) with | true => some [RV.d .bool false] | false => (match decide (x6.2.2 < (IntKind.i64.wrap (0 - n.2.2))) with | true => some [RV.d .bool false] | false => k 61 (lawI_h61 g n t s68 b3_0 b3_1 b3_2 x1 (IntKind.i64.wrap (s114 + 1))))) | none => none) | false => k 28 (lawI_h28 g n t (IntKind.i64.wrap (s68 + 1)) x1.2.1.1 x1.2.1.2.1 x1.2.1.2.2)
theorem lawI_h61_eq (k : Nat → Cfg → Option (List RV)) (g : Int × Int) (n : Int × Int × Int) (t : Int × Int × Int × Int × Int × Int × Int × Int) (s68 : Int) (b3_0 : Int) (b3_1 : Int) (b3_2 : Int) (x1 : Int × (Int × Int × Int) × (Int × Int) × Int) (s114 : Int) : go Tryd.prog ft tys envLI lawI_nt k 4000 { lawI_h61 g n t s68 b3_0 b3_1 b3_2 x1 s114 with K := .lp 61 :: (lawI_h61 g n t s68 b3_0 b3_1 b3_2 x1 s114).K } (.node 62) = lawI_h61_t k g n t s68 b3_0 b3_1 b3_2 x1 s114 := by kernel_rfl
theorem lawI_h61_s (g : Int × Int) (n : Int × Int × Int) (t : Int × Int × Int × Int × Int × Int × Int × Int) (s68 : Int) (b3_0 : Int) (b3_1 : Int) (b3_2 : Int) (x1 : Int × (Int × Int × Int) × (Int × Int) × Int) (s114 : Int) {rX : List RV} (hX : ∃ nX, lawI_h61_t (lawI_C.k nX) g n t s68 b3_0 b3_1 b3_2 x1 s114 = some rX) : lawI_C.Runs 61 (lawI_h61 g n t s68 b3_0 b3_1 b3_2 x1 s114) rX := by
  obtain ⟨nX, hX⟩ := hX
  exact ⟨nX + 1, (lawI_h61_eq _ g n t s68 b3_0 b3_1 b3_2 x1 s114).trans hX⟩
end Go.Proofs.YtpiabmjipgfjjaaDoor

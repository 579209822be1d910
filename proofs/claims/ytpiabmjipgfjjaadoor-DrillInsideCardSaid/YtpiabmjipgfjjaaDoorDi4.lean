/- interpolate: Arc. -/
import Derived.Test.YtpiabmjipgfjjaaDoorDi3
namespace Go.Proofs.YtpiabmjipgfjjaaDoor
open Go.RowKit
structure ArcB (r n k : Int) : Prop where
  nn1 : 1 ≤ n * n
  nn2 : n * n ≤ 1000000
  kk1 : 1 ≤ k * k
  kk2 : k * k ≤ n * n
  rx1 : 0 ≤ r * (n * n - k * k)
  rx2 : r * (n * n - k * k) ≤ 10000000000000
  r2 : 2 * r * k ≤ 20000000000
  r20 : 0 ≤ 2 * r * k
  ry1 : 0 ≤ 2 * r * k * n
  ry2 : 2 * r * k * n ≤ 20000000000000
theorem arcB {r n k : Int} (h1 : 1 ≤ r) (h2 : r ≤ 10000000) (h3 : 1 ≤ n) (h4 : n ≤ 1000) (h5 : 1 ≤ k) (h6 : k ≤ n) : ArcB r n k := by
  have nn1 : 1 * 1 ≤ n * n := Int.mul_le_mul h3 h3 (by decide) (by omega)
  have nn2 : n * n ≤ 1000 * 1000 := Int.mul_le_mul h4 h4 (by omega) (by decide)
  have kk1 : 1 * 1 ≤ k * k := Int.mul_le_mul h5 h5 (by decide) (by omega)
  have kk2 : k * k ≤ n * n := Int.mul_le_mul h6 h6 (by omega) (by omega)
  have rx1 : 0 ≤ r * (n * n - k * k) := Int.mul_nonneg (by omega) (by omega)
  have rx2 : r * (n * n - k * k) ≤ 10000000 * 1000000 := Int.mul_le_mul h2 (by omega) (by omega) (by decide)
  have rk : r * k ≤ 10000000 * 1000 := Int.mul_le_mul h2 (by omega) (by omega) (by decide)
  have rk0 : 0 ≤ r * k := Int.mul_nonneg (by omega) (by omega)
  have e : 2 * r * k = 2 * (r * k) := Int.mul_assoc _ _ _
  have ry2 : 2 * r * k * n ≤ 20000000000 * 1000 := Int.mul_le_mul (by omega) h4 (by omega) (by decide)
  exact ⟨by omega, by omega, by omega, kk2, rx1, by omega, by omega, by omega, Int.mul_nonneg (by omega) (by omega), by omega⟩
/-- A chord's end lies within the circle. -/
theorem arc_in {r n k : Int} (h1 : 1 ≤ r) (h2 : r ≤ 10000000) (h3 : 1 ≤ n) (h4 : n ≤ 1000) (h5 : 1 ≤ k) (h6 : k ≤ n) :
    let x := r * (n * n - k * k) / (n * n + k * k); let y := 2 * r * k * n / (n * n + k * k)
    0 ≤ x ∧ 0 ≤ y ∧ x ≤ r ∧ y ≤ r ∧ x * x + y * y ≤ r * r := by
  intro x y
  obtain ⟨nn1, nn2, kk1, kk2, rx1, rx2, r2, r20, ry1, ry2⟩ := arcB h1 h2 h3 h4 h5 h6
  have hs : 0 < n * n + k * k := by omega
  have x0 : 0 ≤ x := Int.ediv_nonneg rx1 (by omega)
  have y0 : 0 ≤ y := Int.ediv_nonneg ry1 (by omega)
  have xm : x * (n * n + k * k) ≤ r * (n * n - k * k) := Int.ediv_mul_le _ (by omega)
  have ym : y * (n * n + k * k) ≤ 2 * r * k * n := Int.ediv_mul_le _ (by omega)
  generalize hS : n * n + k * k = s at *
  have q1 : (x * s) * (x * s) ≤ (r * (n * n - k * k)) * (r * (n * n - k * k)) := Int.mul_le_mul xm xm (Int.mul_nonneg x0 (by omega)) rx1
  have q2 : (y * s) * (y * s) ≤ (2 * r * k * n) * (2 * r * k * n) := Int.mul_le_mul ym ym (Int.mul_nonneg y0 (by omega)) ry1
  have id : (r * (n * n - k * k)) * (r * (n * n - k * k)) + (2 * r * k * n) * (2 * r * k * n) = (r * r) * (s * s) := by
    rw [← hS]; grind
  have q3 : (x * x + y * y) * (s * s) ≤ (r * r) * (s * s) := by
    have e : (x * x + y * y) * (s * s) = (x * s) * (x * s) + (y * s) * (y * s) := by grind
    omega
  have q4 : x * x + y * y ≤ r * r := Int.le_of_mul_le_mul_right q3 (Int.mul_pos hs hs)
  have sq : ∀ a : Int, 0 ≤ a → a * a ≤ r * r → a ≤ r := by
    intro a ha h
    rcases Int.lt_or_le r a with hlt | hle
    · have h1' := Int.mul_le_mul (show r + 1 ≤ a by omega) (show r + 1 ≤ a by omega) (by omega) (by omega)
      have e : (r + 1) * (r + 1) = r * r + 2 * r + 1 := by grind
      omega
    · exact hle
  have xx : 0 ≤ x * x := Int.mul_nonneg x0 x0
  have yy : 0 ≤ y * y := Int.mul_nonneg y0 y0
  exact ⟨x0, y0, sq x x0 (by omega), sq y y0 (by omega), q4⟩

def qua_sp : Spec := { keep := true, run := fun _ args k => match args with
  | [.d (.st (.pair (.int .i64) (.pair (.int .i64) (.int .i64)))) p, .d (.st (.pair (.int .i64) (.pair (.st (.pair (.int .i64) (.pair (.int .i64) (.int .i64)))) (.pair (.st (.pair (.int .i64) (.int .i64))) (.int .i64))))) m] => match decide (quOk p m) with
    | true => k [RV.d (.int .i64) (quF p m), RV.d (.int .i64) 0]
    | false => none
  | _ => none }
theorem qua_spec : callable Tryd.prog 23 = true ∧ SpecOk Tryd.prog 23 qua_sp ∧ ∀ g, qua_sp.mut_ = some g → MCon Tryd.prog 23 g := by
  refine ⟨by kernel_rfl, fun R args k r h => ?_, fun g h => by simp [qua_sp] at h⟩
  unfold qua_sp at h
  dsimp only at h
  split at h <;> try (cases h; done)
  split at h <;> try (cases h; done)
  rename_i hd
  exact ⟨_, h, qua_con _ _ (of_decide_eq_true hd)⟩
noncomputable def cho_sp : Spec := { keep := true, run := fun _ args k => match args with
  | [.d (.int .i64) r] => match decide (choP r) with
    | true => k [RV.d (.int .i64) (choF r)]
    | false => none
  | _ => none }
theorem cho_spec : callable Tryd.prog 41 = true ∧ SpecOk Tryd.prog 41 cho_sp ∧ ∀ g, cho_sp.mut_ = some g → MCon Tryd.prog 41 g := by
  refine ⟨by kernel_rfl, fun R args k r h => ?_, fun g h => by simp [cho_sp] at h⟩
  unfold cho_sp at h
  dsimp only at h
  split at h <;> try (cases h; done)
  split at h <;> try (cases h; done)
  rename_i hd
  exact ⟨_, h, cho_con _ (of_decide_eq_true hd)⟩

def trn_sp : Spec := { keep := true, run := fun _ args k => match args with
  | [.d (.int .i64) x, .d (.int .i64) y, .d (.int .i64) q] => match decide (trnP x y q) with
    | true => k [RV.d (.int .i64) ((trnF x y q).1), RV.d (.int .i64) ((trnF x y q).2)]
    | false => none
  | _ => none }
theorem trn_spec : callable Tryd.prog 42 = true ∧ SpecOk Tryd.prog 42 trn_sp ∧ ∀ g, trn_sp.mut_ = some g → MCon Tryd.prog 42 g := by
  refine ⟨by kernel_rfl, fun R args k r h => ?_, fun g h => by simp [trn_sp] at h⟩
  unfold trn_sp at h
  dsimp only at h
  split at h <;> try (cases h; done)
  split at h <;> try (cases h; done)
  rename_i hd
  exact ⟨_, h, trn_con _ _ _ (of_decide_eq_true hd)⟩
def flr_sp : Spec := { keep := true, run := fun _ args k => match args with
  | [.d (.int .i64) a, .d (.int .i64) b] => match decide (flrP a b) with
    | true => k [RV.d (.int .i64) (a / b)]
    | false => none
  | _ => none }
theorem flr_spec : callable Tryd.prog 43 = true ∧ SpecOk Tryd.prog 43 flr_sp ∧ ∀ g, flr_sp.mut_ = some g → MCon Tryd.prog 43 g := by
  refine ⟨by kernel_rfl, fun R args k r h => ?_, fun g h => by simp [flr_sp] at h⟩
  unfold flr_sp at h
  dsimp only at h
  split at h <;> try (cases h; done)
  split at h <;> try (cases h; done)
  rename_i hd
  exact ⟨_, h, flr_con _ _ (of_decide_eq_true hd)⟩
noncomputable def envD4 : Env := [(34, pnt_sp), (23, qua_sp), (41, cho_sp), (42, trn_sp), (43, flr_sp)]
theorem envD4_ok : EnvAll Tryd.prog envD4 := ⟨pnt_spec, qua_spec, cho_spec, trn_spec, flr_spec, trivial⟩
def arc_nt : NT := [((40, 34), { keep := [2, 3, 8, 10, 11, 12, 13, 44, 45], own := [(13, 46, .st (.pair (.int .i64) (.pair (.int .i64) (.int .i64))))], hl := 3 }), ((40, 48), { keep := [2, 3, 8, 10, 11, 12, 13, 14, 15, 44, 45], hl := 3 })]
noncomputable def arc_C : Ctx := ⟨Tryd.prog, ft, tys, envD4, arc_nt⟩
noncomputable def arc_h34 (p : Int × Int × Int) (m : Int × (Int × Int × Int) × (Int × Int) × Int) (s45 : Int) (r2 : List (Int × Int × Int)) : Cfg := ⟨40, [.blk 0, .seq 70], [(2, .box 0 0), (3, .box 1 0), (8, SI ((pntF p m.2.2.1).1)), (10, SI (IntKind.i64.wrap ((pntF p m.2.2.1).2))), (11, SI (choF (IntKind.i64.wrap ((pntF p m.2.2.1).2)))), (12, SI (IntKind.i64.wrap ((choF (IntKind.i64.wrap ((pntF p m.2.2.1).2))) * (quF p m)))), (13, .own 2), (44, SI (quF p m)), (45, SI s45)], [.box 46 [SI p.1, SI p.2.1, SI p.2.2], .box 48 [SI m.1, SI m.2.1.1, SI m.2.1.2.1, SI m.2.1.2.2, SI m.2.2.1.1, SI m.2.2.1.2, SI m.2.2.2], .row 46 (.st (.pair (.int .i64) (.pair (.int .i64) (.int .i64)))) r2], 0, []⟩
noncomputable def arc_h48 (p : Int × Int × Int) (m : Int × (Int × Int × Int) × (Int × Int) × Int) (s45 : Int) (s15 : Int) (r2 : List (Int × Int × Int)) : Cfg := ⟨40, [.blk 2, .blk 1, .seq 69, .lp 34, .blk 0, .seq 70], [(2, .box 0 0), (3, .box 1 0), (8, SI ((pntF p m.2.2.1).1)), (10, SI (IntKind.i64.wrap ((pntF p m.2.2.1).2))), (11, SI (choF (IntKind.i64.wrap ((pntF p m.2.2.1).2)))), (12, SI (IntKind.i64.wrap ((choF (IntKind.i64.wrap ((pntF p m.2.2.1).2))) * (quF p m)))), (13, .own 2), (14, SI s45), (15, SI s15), (44, SI (quF p m)), (45, SI s45)], [.box 46 [SI p.1, SI p.2.1, SI p.2.2], .box 48 [SI m.1, SI m.2.1.1, SI m.2.1.2.1, SI m.2.1.2.2, SI m.2.2.1.1, SI m.2.2.1.2, SI m.2.2.2], .row 46 (.st (.pair (.int .i64) (.pair (.int .i64) (.int .i64)))) r2], 0, []⟩
noncomputable def arc_t (k : Nat → Cfg → Option (List RV)) (p : Int × Int × Int) (m : Int × (Int × Int × Int) × (Int × Int) × Int) : Option (List RV) := match decide (quOk p m) with | true => (match 0 != 0 with | true => some [RV.d (.sl (.st (.pair (.int .i64) (.pair (.int .i64) (.int .i64))))) ([]), RV.d (.int .i64) 0] | false => (match decide (pntP p m.2.2.1) with | true => (match decide (choP (IntKind.i64.wrap ((pntF p m.2.2.1).2))) with | true => (match decide ((IntKind.i64.wrap ((choF (IntKind.i64.wrap ((pntF p m.2.2.1).2))) * (quF p m))) > 20000) with | true => some [RV.d (.sl (.st (.pair (.int .i64) (.pair (.int .i64) (.int .i64))))) ([]), RV.d (.int .i64) 3] | false => k 34 (arc_h34 p m 0 ([]))) | false => none) | false => none)) | false => none
theorem arc_eq (k : Nat → Cfg → Option (List RV)) (p : Int × Int × Int) (m : Int × (Int × Int × Int) × (Int × Int) × Int) : go Tryd.prog ft tys envD4 arc_nt k 4000 (start 40 [.d (.st (.pair (.int .i64) (.pair (.int .i64) (.int .i64)))) p, .d (.st (.pair (.int .i64) (.pair (.st (.pair (.int .i64) (.pair (.int .i64) (.int .i64)))) (.pair (.st (.pair (.int .i64) (.int .i64))) (.int .i64))))) m]) (.node 0) = arc_t k p m := by kernel_rfl
theorem arc_s (p : Int × Int × Int) (m : Int × (Int × Int × Int) × (Int × Int) × Int) {rX : List RV} (hX : ∃ nX, arc_t (arc_C.k nX) p m = some rX) : arc_C.Res 40 [.d (.st (.pair (.int .i64) (.pair (.int .i64) (.int .i64)))) p, .d (.st (.pair (.int .i64) (.pair (.st (.pair (.int .i64) (.pair (.int .i64) (.int .i64)))) (.pair (.st (.pair (.int .i64) (.int .i64))) (.int .i64))))) m] rX := by
  obtain ⟨nX, hX⟩ := hX
  exact ⟨nX, (arc_eq _ p m).trans hX⟩
noncomputable def arc_h34_t (k : Nat → Cfg → Option (List RV)) (p : Int × Int × Int) (m : Int × (Int × Int × Int) × (Int × Int) × Int) (s45 : Int) (r2 : List (Int × Int × Int)) : Option (List RV) := match decide (s45 < (quF p m)) with | true => k 48 (arc_h48 p m s45 1 r2) | false => some [RV.d (.sl (.st (.pair (.int .i64) (.pair (.int .i64) (.int .i64))))) r2, RV.d (.int .i64) 0]
theorem arc_h34_eq (k : Nat → Cfg → Option (List RV)) (p : Int × Int × Int) (m : Int × (Int × Int × Int) × (Int × Int) × Int) (s45 : Int) (r2 : List (Int × Int × Int)) : go Tryd.prog ft tys envD4 arc_nt k 4000 { arc_h34 p m s45 r2 with K := .lp 34 :: (arc_h34 p m s45 r2).K } (.node 35) = arc_h34_t k p m s45 r2 := by kernel_rfl
theorem arc_h34_s (p : Int × Int × Int) (m : Int × (Int × Int × Int) × (Int × Int) × Int) (s45 : Int) (r2 : List (Int × Int × Int)) {rX : List RV} (hX : ∃ nX, arc_h34_t (arc_C.k nX) p m s45 r2 = some rX) : arc_C.Runs 34 (arc_h34 p m s45 r2) rX := by
  obtain ⟨nX, hX⟩ := hX
  exact ⟨nX + 1, (arc_h34_eq _ p m s45 r2).trans hX⟩
noncomputable def arc_h48_t (k : Nat → Cfg → Option (List RV)) (p : Int × Int × Int) (m : Int × (Int × Int × Int) × (Int × Int) × Int) (s45 : Int) (s15 : Int) (r2 : List (Int × Int × Int)) : Option (List RV) := match decide (s15 ≤ (choF (IntKind.i64.wrap ((pntF p m.2.2.1).2)))) with | true => (match decide (IntKind.i64.wrap ((IntKind.i64.wrap ((choF (IntKind.i64.wrap ((pntF p m.2.2.1).2))) * (choF (IntKind.i64.wrap ((pntF p m.2.2.1).2))))) + (IntKind.i64.wrap (s15 * s15))) = (0 : Int)) with | true => none | false => (match decide (IntKind.i64.wrap ((IntKind.i64.wrap ((choF (IntKind.i64.wrap ((pntF p m.2.2.1).2))) * (choF (IntKind.i64.wrap ((pntF p m.2.2.1).2))))) + (IntKind.i64.wrap (s15 * s15))) = (0 : Int)) with | true => none | false => (match m.1 == 3 with | true => (match decide (trnP (IntKind.i64.wrap (Int.tdiv (IntKind.i64.wrap ((IntKind.i64.wrap ((pntF p m.2.2.1).2)) * (IntKind.i64.wrap ((IntKind.i64.wrap ((choF (IntKind.i64.wrap ((pntF p m.2.2.1).2))) * (choF (IntKind.i64.wrap ((pntF p m.2.2.1).2))))) - (IntKind.i64.wrap (s15 * s15)))))) (IntKind.i64.wrap ((IntKind.i64.wrap ((choF (IntKind.i64.wrap ((pntF p m.2.2.1).2))) * (choF (IntKind.i64.wrap ((pntF p m.2.2.1).2))))) + (IntKind.i64.wrap (s15 * s15)))))) (IntKind.i64.wrap (0 - (IntKind.i64.wrap (Int.tdiv (IntKind.i64.wrap ((IntKind.i64.wrap ((IntKind.i64.wrap (2 * (IntKind.i64.wrap ((pntF p m.2.2.1).2)))) * s15)) * (choF (IntKind.i64.wrap ((pntF p m.2.2.1).2))))) (IntKind.i64.wrap ((IntKind.i64.wrap ((choF (IntKind.i64.wrap ((pntF p m.2.2.1).2))) * (choF (IntKind.i64.wrap ((pntF p m.2.2.1).2))))) + (IntKind.i64.wrap (s15 * s15)))))))) (IntKind.i64.wrap ((IntKind.i64.wrap (((pntF p m.2.2.1).1) - s45)) + 4))) with | true => (match decide (flrP (IntKind.i64.wrap ((IntKind.i64.wrap (m.2.1.2.2 - p.2.2)) * (IntKind.i64.wrap ((r2.length : Int) + 1)))) (IntKind.i64.wrap ((choF (IntKind.i64.wrap ((pntF p m.2.2.1).2))) * (quF p m)))) with | true => (match decide ((r2.length + ([(IntKind.i64.wrap (m.2.2.1.1 + ((trnF (IntKind.i64.wrap (Int.tdiv (IntKind.i64.wrap ((IntKind.i64.wrap ((pntF p m.2.2.1).2)) * (IntKind.i64.wrap ((IntKind.i64.wrap ((choF (IntKind.i64.wrap ((pntF p m.2.2.1).2))) * (choF (IntKind.i64.wrap ((pntF p m.2.2.1).2))))) - (IntKind.i64.wrap (s15 * s15)))))) (IntKind.i64.wrap ((IntKind.i64.wrap ((choF (IntKind.i64.wrap ((pntF p m.2.2.1).2))) * (choF (IntKind.i64.wrap ((pntF p m.2.2.1).2))))) + (IntKind.i64.wrap (s15 * s15)))))) (IntKind.i64.wrap (0 - (IntKind.i64.wrap (Int.tdiv (IntKind.i64.wrap ((IntKind.i64.wrap ((IntKind.i64.wrap (2 * (IntKind.i64.wrap ((pntF p m.2.2.1).2)))) * s15)) * (choF (IntKind.i64.wrap ((pntF p m.2.2.1).2))))) (IntKind.i64.wrap ((IntKind.i64.wrap ((choF (IntKind.i64.wrap ((pntF p m.2.2.1).2))) * (choF (IntKind.i64.wrap ((pntF p m.2.2.1).2))))) + (IntKind.i64.wrap (s15 * s15)))))))) (IntKind.i64.wrap ((IntKind.i64.wrap (((pntF p m.2.2.1).1) - s45)) + 4))).1)), (IntKind.i64.wrap (m.2.2.1.2 + ((trnF (IntKind.i64.wrap (Int.tdiv (IntKind.i64.wrap ((IntKind.i64.wrap ((pntF p m.2.2.1).2)) * (IntKind.i64.wrap ((IntKind.i64.wrap ((choF (IntKind.i64.wrap ((pntF p m.2.2.1).2))) * (choF (IntKind.i64.wrap ((pntF p m.2.2.1).2))))) - (IntKind.i64.wrap (s15 * s15)))))) (IntKind.i64.wrap ((IntKind.i64.wrap ((choF (IntKind.i64.wrap ((pntF p m.2.2.1).2))) * (choF (IntKind.i64.wrap ((pntF p m.2.2.1).2))))) + (IntKind.i64.wrap (s15 * s15)))))) (IntKind.i64.wrap (0 - (IntKind.i64.wrap (Int.tdiv (IntKind.i64.wrap ((IntKind.i64.wrap ((IntKind.i64.wrap (2 * (IntKind.i64.wrap ((pntF p m.2.2.1).2)))) * s15)) * (choF (IntKind.i64.wrap ((pntF p m.2.2.1).2))))) (IntKind.i64.wrap ((IntKind.i64.wrap ((choF (IntKind.i64.wrap ((pntF p m.2.2.1).2))) * (choF (IntKind.i64.wrap ((pntF p m.2.2.1).2))))) + (IntKind.i64.wrap (s15 * s15)))))))) (IntKind.i64.wrap ((IntKind.i64.wrap (((pntF p m.2.2.1).1) - s45)) + 4))).2)), IntKind.i64.wrap (p.2.2 + ((IntKind.i64.wrap ((IntKind.i64.wrap (m.2.1.2.2 - p.2.2)) * (IntKind.i64.wrap ((r2.length : Int) + 1)))) / (IntKind.i64.wrap ((choF (IntKind.i64.wrap ((pntF p m.2.2.1).2))) * (quF p m)))))))]).length) * 24 ≤ 140737488355328 ∧ r2.length + ([(IntKind.i64.wrap (m.2.2.1.1 + ((trnF (IntKind.i64.wrap (Int.tdiv (IntKind.i64.wrap ((IntKind.i64.wrap ((pntF p m.2.2.1).2)) * (IntKind.i64.wrap ((IntKind.i64.wrap ((choF (IntKind.i64.wrap ((pntF p m.2.2.1).2))) * (choF (IntKind.i64.wrap ((pntF p m.2.2.1).2))))) - (IntKind.i64.wrap (s15 * s15)))))) (IntKind.i64.wrap ((IntKind.i64.wrap ((choF (IntKind.i64.wrap ((pntF p m.2.2.1).2))) * (choF (IntKind.i64.wrap ((pntF p m.2.2.1).2))))) + (IntKind.i64.wrap (s15 * s15)))))) (IntKind.i64.wrap (0 - (IntKind.i64.wrap (Int.tdiv (IntKind.i64.wrap ((IntKind.i64.wrap ((IntKind.i64.wrap (2 * (IntKind.i64.wrap ((pntF p m.2.2.1).2)))) * s15)) * (choF (IntKind.i64.wrap ((pntF p m.2.2.1).2))))) (IntKind.i64.wrap ((IntKind.i64.wrap ((choF (IntKind.i64.wrap ((pntF p m.2.2.1).2))) * (choF (IntKind.i64.wrap ((pntF p m.2.2.1).2))))) + (IntKind.i64.wrap (s15 * s15)))))))) (IntKind.i64.wrap ((IntKind.i64.wrap (((pntF p m.2.2.1).1) - s45)) + 4))).1)), (IntKind.i64.wrap (m.2.2.1.2 + ((trnF (IntKind.i64.wrap (Int.tdiv (IntKind.i64.wrap ((IntKind.i64.wrap ((pntF p m.2.2.1).2)) * (IntKind.i64.wrap ((IntKind.i64.wrap ((choF (IntKind.i64.wrap ((pntF p m.2.2.1).2))) * (choF (IntKind.i64.wrap ((pntF p m.2.2.1).2))))) - (IntKind.i64.wrap (s15 * s15)))))) (IntKind.i64.wrap ((IntKind.i64.wrap ((choF (IntKind.i64.wrap ((pntF p m.2.2.1).2))) * (choF (IntKind.i64.wrap ((pntF p m.2.2.1).2))))) + (IntKind.i64.wrap (s15 * s15)))))) (IntKind.i64.wrap (0 - (IntKind.i64.wrap (Int.tdiv (IntKind.i64.wrap ((IntKind.i64.wrap ((IntKind.i64.wrap (2 * (IntKind.i64.wrap ((pntF p m.2.2.1).2)))) * s15)) * (choF (IntKind.i64.wrap ((pntF p m.2.2.1).2))))) (IntKind.i64.wrap ((IntKind.i64.wrap ((choF (IntKind.i64.wrap ((pntF p m.2.2.1).2))) * (choF (IntKind.i64.wrap ((pntF p m.2.2.1).2))))) + (IntKind.i64.wrap (s15 * s15)))))))) (IntKind.i64.wrap ((IntKind.i64.wrap (((pntF p m.2.2.1).1) - s45)) + 4))).2)), IntKind.i64.wrap (p.2.2 + ((IntKind.i64.wrap ((IntKind.i64.wrap (m.2.1.2.2 - p.2.2)) * (IntKind.i64.wrap ((r2.length : Int) + 1)))) / (IntKind.i64.wrap ((choF (IntKind.i64.wrap ((pntF p m.2.2.1).2))) * (quF p m)))))))]).length ≤ 140737488355328) with | true => k 48 (arc_h48 p m s45 (IntKind.i64.wrap (s15 + 1)) (r2 ++ ([(IntKind.i64.wrap (m.2.2.1.1 + ((trnF (IntKind.i64.wrap (Int.tdiv (IntKind.i64.wrap ((IntKind.i64.wrap ((pntF p m.2.2.1).2)) * (IntKind.i64.wrap ((IntKind.i64.wrap ((choF (IntKind.i64.wrap ((pntF p m.2.2.1).2))) * (choF (IntKind.i64.wrap ((pntF p m.2.2.1).2))))) - (IntKind.i64.wrap (s15 * s15)))))) (IntKind.i64.wrap ((IntKind.i64.wrap ((choF (IntKind.i64.wrap ((pntF p m.2.2.1).2))) * (choF (IntKind.i64.wrap ((pntF p m.2.2.1).2))))) + (IntKind.i64.wrap (s15 * s15)))))) (IntKind.i64.wrap (0 - (IntKind.i64.wrap (Int.tdiv (IntKind.i64.wrap ((IntKind.i64.wrap ((IntKind.i64.wrap (2 * (IntKind.i64.wrap ((pntF p m.2.2.1).2)))) * s15)) * (choF (IntKind.i64.wrap ((pntF p m.2.2.1).2))))) (IntKind.i64.wrap ((IntKind.i64.wrap ((choF (IntKind.i64.wrap ((pntF p m.2.2.1).2))) * (choF (IntKind.i64.wrap ((pntF p m.2.2.1).2))))) + (IntKind.i64.wrap (s15 * s15)))))))) (IntKind.i64.wrap ((IntKind.i64.wrap (((pntF p m.2.2.1).1) - s45)) + 4))).1)), (IntKind.i64.wrap (m.2.2.1.2 + ((trnF (IntKind.i64.wrap (Int.tdiv (IntKind.i64.wrap ((IntKind.i64.wrap ((pntF p m.2.2.1).2)) * (IntKind.i64.wrap ((IntKind.i64.wrap ((choF (IntKind.i64.wrap ((pntF p m.2.2.1).2))) * (choF (IntKind.i64.wrap ((pntF p m.2.2.1).2))))) - (IntKind.i64.wrap (s15 * s15)))))) (IntKind.i64.wrap ((IntKind.i64.wrap ((choF (IntKind.i64.wrap ((pntF p m.2.2.1).2))) * (choF (IntKind.i64.wrap ((pntF p m.2.2.1).2))))) + (IntKind.i64.wrap (s15 * s15)))))) (IntKind.i64.wrap (0 - (IntKind.i64.wrap (Int.tdiv (IntKind.i64.wrap ((IntKind.i64.wrap ((IntKind.i64.wrap (2 * (IntKind.i64.wrap ((pntF p m.2.2.1).2)))) * s15)) * (choF (IntKind.i64.wrap ((pntF p m.2.2.1).2))))) (IntKind.i64.wrap ((IntKind.i64.wrap ((choF (IntKind.i64.wrap ((pntF p m.2.2.1).2))) * (choF (IntKind.i64.wrap ((pntF p m.2.2.1).2))))) + (IntKind.i64.wrap (s15 * s15)))))))) (IntKind.i64.wrap ((IntKind.i64.wrap (((pntF p m.2.2.1).1) - s45)) + 4))).2)), IntKind.i64.wrap (p.2.2 + ((IntKind.i64.wrap ((IntKind.i64.wrap (m.2.1.2.2 - p.2.2)) * (IntKind.i64.wrap ((r2.length : Int) + 1)))) / (IntKind.i64.wrap ((choF (IntKind.i64.wrap ((pntF p m.2.2.1).2))) * (quF p m)))))))]))) | false => none) | false => none) | false => none) | false => (match decide (trnP (IntKind.i64.wrap (Int.tdiv (IntKind.i64.wrap ((IntKind.i64.wrap ((pntF p m.2.2.1).2)) * (IntKind.i64.wrap ((IntKind.i64.wrap ((choF (IntKind.i64.wrap ((pntF p m.2.2.1).2))) * (choF (IntKind.i64.wrap ((pntF p m.2.2.1).2))))) - (IntKind.i64.wrap (s15 * s15)))))) (IntKind.i64.wrap ((IntKind.i64.wrap ((choF (IntKind.i64.wrap ((pntF p m.2.2.1).2))) * (choF (IntKind.i64.wrap ((pntF p m.2.2.1).2))))) + (IntKind.i64.wrap (s15 * s15)))))) (IntKind.i64.wrap (Int.tdiv (IntKind.i64.wrap ((IntKind.i64.wrap ((IntKind.i64.wrap (2 * (IntKind.i64.wrap ((pntF p m.2.2.1).2)))) * s15)) * (choF (IntKind.i64.wrap ((pntF p m.2.2.1).2))))) (IntKind.i64.wrap ((IntKind.i64.wrap ((choF (IntKind.i64.wrap ((pntF p m.2.2.1).2))) * (choF (IntKind.i64.wrap ((pntF p m.2.2.1).2))))) + (IntKind.i64.wrap (s15 * s15)))))) (IntKind.i64.wrap (((pntF p m.2.2.1).1) + s45))) with | true => (match decide (flrP (IntKind.i64.wrap ((IntKind.i64.wrap (m.2.1.2.2 - p.2.2)) * (IntKind.i64.wrap ((r2.length : Int) + 1)))) (IntKind.i64.wrap ((choF (IntKind.i64.wrap ((pntF p m.2.2.1).2))) * (quF p m)))) with | true => (match decide ((r2.length + ([(IntKind.i64.wrap (m.2.2.1.1 + ((trnF (IntKind.i64.wrap (Int.tdiv (IntKind.i64.wrap ((IntKind.i64.wrap ((pntF p m.2.2.1).2)) * (IntKind.i64.wrap ((IntKind.i64.wrap ((choF (IntKind.i64.wrap ((pntF p m.2.2.1).2))) * (choF (IntKind.i64.wrap ((pntF p m.2.2.1).2))))) - (IntKind.i64.wrap (s15 * s15)))))) (IntKind.i64.wrap ((IntKind.i64.wrap ((choF (IntKind.i64.wrap ((pntF p m.2.2.1).2))) * (choF (IntKind.i64.wrap ((pntF p m.2.2.1).2))))) + (IntKind.i64.wrap (s15 * s15)))))) (IntKind.i64.wrap (Int.tdiv (IntKind.i64.wrap ((IntKind.i64.wrap ((IntKind.i64.wrap (2 * (IntKind.i64.wrap ((pntF p m.2.2.1).2)))) * s15)) * (choF (IntKind.i64.wrap ((pntF p m.2.2.1).2))))) (IntKind.i64.wrap ((IntKind.i64.wrap ((choF (IntKind.i64.wrap ((pntF p m.2.2.1).2))) * (choF (IntKind.i64.wrap ((pntF p m.2.2.1).2))))) + (IntKind.i64.wrap (s15 * s15)))))) (IntKind.i64.wrap (((pntF p m.2.2.1).1) + s45))).1)), (IntKind.i64.wrap (m.2.2.1.2 + ((trnF (IntKind.i64.wrap (Int.tdiv (IntKind.i64.wrap ((IntKind.i64.wrap ((pntF p m.2.2.1).2)) * (IntKind.i64.wrap ((IntKind.i64.wrap ((choF (IntKind.i64.wrap ((pntF p m.2.2.1).2))) * (choF (IntKind.i64.wrap ((pntF p m.2.2.1).2))))) - (IntKind.i64.wrap (s15 * s15)))))) (IntKind.i64.wrap ((IntKind.i64.wrap ((choF (IntKind.i64.wrap ((pntF p m.2.2.1).2))) * (choF (IntKind.i64.wrap ((pntF p m.2.2.1).2))))) + (IntKind.i64.wrap (s15 * s15)))))) (IntKind.i64.wrap (Int.tdiv (IntKind.i64.wrap ((IntKind.i64.wrap ((IntKind.i64.wrap (2 * (IntKind.i64.wrap ((pntF p m.2.2.1).2)))) * s15)) * (choF (IntKind.i64.wrap ((pntF p m.2.2.1).2))))) (IntKind.i64.wrap ((IntKind.i64.wrap ((choF (IntKind.i64.wrap ((pntF p m.2.2.1).2))) * (choF (IntKind.i64.wrap ((pntF p m.2.2.1).2))))) + (IntKind.i64.wrap (s15 * s15)))))) (IntKind.i64.wrap (((pntF p m.2.2.1).1) + s45))).2)), IntKind.i64.wrap (p.2.2 + ((IntKind.i64.wrap ((IntKind.i64.wrap (m.2.1.2.2 - p.2.2)) * (IntKind.i64.wrap ((r2.length : Int) + 1)))) / (IntKind.i64.wrap ((choF (IntKind.i64.wrap ((pntF p m.2.2.1).2))) * (quF p m)))))))]).length) * 24 ≤ 140737488355328 ∧ r2.length + ([(IntKind.i64.wrap (m.2.2.1.1 + ((trnF (IntKind.i64.wrap (Int.tdiv (IntKind.i64.wrap ((IntKind.i64.wrap ((pntF p m.2.2.1).2)) * (IntKind.i64.wrap ((IntKind.i64.wrap ((choF (IntKind.i64.wrap ((pntF p m.2.2.1).2))) * (choF (IntKind.i64.wrap ((pntF p m.2.2.1).2))))) - (IntKind.i64.wrap (s15 * s15)))))) (IntKind.i64.wrap ((IntKind.i64.wrap ((choF (IntKind.i64.wrap ((pntF p m.2.2.1).2))) * (choF (IntKind.i64.wrap ((pntF p m.2.2.1).2))))) + (IntKind.i64.wrap (s15 * s15)))))) (IntKind.i64.wrap (Int.tdiv (IntKind.i64.wrap ((IntKind.i64.wrap ((IntKind.i64.wrap (2 * (IntKind.i64.wrap ((pntF p m.2.2.1).2)))) * s15)) * (choF (IntKind.i64.wrap ((pntF p m.2.2.1).2))))) (IntKind.i64.wrap ((IntKind.i64.wrap ((choF (IntKind.i64.wrap ((pntF p m.2.2.1).2))) * (choF (IntKind.i64.wrap ((pntF p m.2.2.1).2))))) + (IntKind.i64.wrap (s15 * s15)))))) (IntKind.i64.wrap (((pntF p m.2.2.1).1) + s45))).1)), (IntKind.i64.wrap (m.2.2.1.2 + ((trnF (IntKind.i64.wrap (Int.tdiv (IntKind.i64.wrap ((IntKind.i64.wrap ((pntF p m.2.2.1).2)) * (IntKind.i64.wrap ((IntKind.i64.wrap ((choF (IntKind.i64.wrap ((pntF p m.2.2.1).2))) * (choF (IntKind.i64.wrap ((pntF p m.2.2.1).2))))) - (IntKind.i64.wrap (s15 * s15)))))) (IntKind.i64.wrap ((IntKind.i64.wrap ((choF (IntKind.i64.wrap ((pntF p m.2.2.1).2))) * (choF (IntKind.i64.wrap ((pntF p m.2.2.1).2))))) + (IntKind.i64.wrap (s15 * s15)))))) (IntKind.i64.wrap (Int.tdiv (IntKind.i64.wrap ((IntKind.i64.wrap ((IntKind.i64.wrap (2 * (IntKind.i64.wrap ((pntF p m.2.2.1).2)))) * s15)) * (choF (IntKind.i64.wrap ((pntF p m.2.2.1).2))))) (IntKind.i64.wrap ((IntKind.i64.wrap ((choF (IntKind.i64.wrap ((pntF p m.2.2.1).2))) * (choF (IntKind.i64.wrap ((pntF p m.2.2.1).2))))) + (IntKind.i64.wrap (s15 * s15)))))) (IntKind.i64.wrap (((pntF p m.2.2.1).1) + s45))).2)), IntKind.i64.wrap (p.2.2 + ((IntKind.i64.wrap ((IntKind.i64.wrap (m.2.1.2.2 - p.2.2)) * (IntKind.i64.wrap ((r2.length : Int) + 1)))) / (IntKind.i64.wrap ((choF (IntKind.i64.wrap ((pntF p m.2.2.1).2))) * (quF p m)))))))]).length ≤ 140737488355328) with | true => k 48 (arc_h48 p m s45 (IntKind.i64.wrap (s15 + 1)) (r2 ++ ([(IntKind.i64.wrap (m.2.2.1.1 + ((trnF (IntKind.i64.wrap (Int.tdiv (IntKind.i64.wrap ((IntKind.i64.wrap ((pntF p m.2.2.1).2)) * (IntKind.i64.wrap ((IntKind.i64.wrap ((choF (IntKind.i64.wrap ((pntF p m.2.2.1).2))) * (choF (IntKind.i64.wrap ((pntF p m.2.2.1).2))))) - (IntKind.i64.wrap (s15 * s15)))))) (IntKind.i64.wrap ((IntKind.i64.wrap ((choF (IntKind.i64.wrap ((pntF p m.2.2.1).2))) * (choF (IntKind.i64.wrap ((pntF p m.2.2.1).2))))) + (IntKind.i64.wrap (s15 * s15)))))) (IntKind.i64.wrap (Int.tdiv (IntKind.i64.wrap ((IntKind.i64.wrap ((IntKind.i64.wrap (2 * (IntKind.i64.wrap ((pntF p m.2.2.1).2)))) * s15)) * (choF (IntKind.i64.wrap ((pntF p m.2.2.1).2))))) (IntKind.i64.wrap ((IntKind.i64.wrap ((choF (IntKind.i64.wrap ((pntF p m.2.2.1).2))) * (choF (IntKind.i64.wrap ((pntF p m.2.2.1).2))))) + (IntKind.i64.wrap (s15 * s15)))))) (IntKind.i64.wrap (((pntF p m.2.2.1).1) + s45))).1)), (IntKind.i64.wrap (m.2.2.1.2 + ((trnF (IntKind.i64.wrap (Int.tdiv (IntKind.i64.wrap ((IntKind.i64.wrap ((pntF p m.2.2.1).2)) * (IntKind.i64.wrap ((IntKind.i64.wrap ((choF (IntKind.i64.wrap ((pntF p m.2.2.1).2))) * (choF (IntKind.i64.wrap ((pntF p m.2.2.1).2))))) - (IntKind.i64.wrap (s15 * s15)))))) (IntKind.i64.wrap ((IntKind.i64.wrap ((choF (IntKind.i64.wrap ((pntF p m.2.2.1).2))) * (choF (IntKind.i64.wrap ((pntF p m.2.2.1).2))))) + (IntKind.i64.wrap (s15 * s15)))))) (IntKind.i64.wrap (Int.tdiv (IntKind.i64.wrap ((IntKind.i64.wrap ((IntKind.i64.wrap (2 * (IntKind.i64.wrap ((pntF p m.2.2.1).2)))) * s15)) * (choF (IntKind.i64.wrap ((pntF p m.2.2.1).2))))) (IntKind.i64.wrap ((IntKind.i64.wrap ((choF (IntKind.i64.wrap ((pntF p m.2.2.1).2))) * (choF (IntKind.i64.wrap ((pntF p m.2.2.1).2))))) + (IntKind.i64.wrap (s15 * s15)))))) (IntKind.i64.wrap (((pntF p m.2.2.1).1) + s45))).2)), IntKind.i64.wrap (p.2.2 + ((IntKind.i64.wrap ((IntKind.i64.wrap (m.2.1.2.2 - p.2.2)) * (IntKind.i64.wrap ((r2.length : Int) + 1)))) / (IntKind.i64.wrap ((choF (IntKind.i64.wrap ((pntF p m.2.2.1).2))) * (quF p m)))))))]))) | false => none) | false => none) | false => none)))) | false => k 34 (arc_h34 p m (IntKind.i64.wrap (s45 + 1)) r2)
theorem arc_h48_eq (k : Nat → Cfg → Option (List RV)) (p : Int × Int × Int) (m : Int × (Int × Int × Int) × (Int × Int) × Int) (s45 : Int) (s15 : Int) (r2 : List (Int × Int × Int)) : go Tryd.prog ft tys envD4 arc_nt k 4000 { arc_h48 p m s45 s15 r2 with K := .lp 48 :: (arc_h48 p m s45 s15 r2).K } (.node 49) = arc_h48_t k p m s45 s15 r2 := by kernel_rfl
theorem arc_h48_s (p : Int × Int × Int) (m : Int × (Int × Int × Int) × (Int × Int) × Int) (s45 : Int) (s15 : Int) (r2 : List (Int × Int × Int)) {rX : List RV} (hX : ∃ nX, arc_h48_t (arc_C.k nX) p m s45 s15 r2 = some rX) : arc_C.Runs 48 (arc_h48 p m s45 s15 r2) rX := by
  obtain ⟨nX, hX⟩ := hX
  exact ⟨nX + 1, (arc_h48_eq _ p m s45 s15 r2).trans hX⟩
/-- A position that lies within the circle of an arc, not below both of its ends. -/
def arcG (p : P3) (m : Mq) (x : P3) : Prop := (x.1 - m.2.2.1.1) * (x.1 - m.2.2.1.1) + (x.2.1 - m.2.2.1.2) * (x.2.1 - m.2.2.1.2) ≤ (pntF p m.2.2.1).2 * (pntF p m.2.2.1).2 ∧ in8 x.1 ∧ in8 x.2.1 ∧ (p.2.2 ≤ x.2.2 ∨ m.2.1.2.2 ≤ x.2.2)
theorem quF_bd (p : P3) (m : Mq) : 1 ≤ quF p m ∧ quF p m ≤ 4 := by
  have h1 := pntF_bd p m.2.2.1
  have h2 := pntF_bd m.2.1 m.2.2.1
  unfold quF quN
  generalize (pntF p m.2.2.1).1 = a at *
  generalize (pntF m.2.1 m.2.2.1).1 = b at *
  by_cases hc : b - a ≤ 0
  · rw [decide_eq_true hc]; simp only [cond_true]; omega
  · rw [decide_eq_false hc]; simp only [cond_false]; omega
theorem fl_low {d i all : Int} (h1 : 1 ≤ all) (h2 : 0 ≤ i) (h3 : i ≤ all) : 0 ≤ d * i / all ∨ d ≤ d * i / all := by
  rcases Int.lt_or_le d 0 with h | h
  · refine .inr (Int.le_ediv_of_mul_le (by omega) ?_)
    exact Int.mul_le_mul_of_nonpos_left (by omega) h3
  · exact .inl (Int.ediv_nonneg (Int.mul_nonneg h h2) (by omega))
theorem tdiv_pos {a b : Int} (h : 0 ≤ a) : Int.tdiv a b = a / b := Int.tdiv_eq_ediv_of_nonneg h
section
variable (p : P3) (m : Mq) (hp : quOk p m)
include hp
theorem arc_inner (n Q : Nat) (hn : choF (IntKind.i64.wrap (pntF p m.2.2.1).2) = (n : Int)) (hQ : quF p m = (Q : Int)) (a : Nat) (ha : a < Q)
    (hout : ∀ r, (∀ x ∈ r, arcG p m x) → r.length = (a + 1) * n → ∃ l, ((∀ x ∈ l, arcG p m x) ∧ l.length ≤ 4000) ∧ arc_C.Runs 34 (arc_h34 p m ((a + 1 : Nat) : Int) r) [.d (.sl (.st (.pair (.int .i64) (.pair (.int .i64) (.int .i64))))) l, .d (.int .i64) 0]) :
    ∀ (j k : Nat) (r : List P3), k + j = n + 1 → 1 ≤ k → (∀ x ∈ r, arcG p m x) → r.length = a * n + (k - 1) → ∃ l, ((∀ x ∈ l, arcG p m x) ∧ l.length ≤ 4000) ∧ arc_C.Runs 48 (arc_h48 p m (a : Int) (k : Int) r) [.d (.sl (.st (.pair (.int .i64) (.pair (.int .i64) (.int .i64))))) l, .d (.int .i64) 0] := by
  have hb := choF_bd (IntKind.i64.wrap (pntF p m.2.2.1).2)
  have hq := quF_bd p m
  have hf := pntF_bd p m.2.2.1
  rw [hn] at hb
  rw [hQ] at hq
  obtain ⟨hm, hk4⟩ := hp
  rcases hm.2 with ⟨hk', hr⟩ | ⟨hk', hr⟩ | ⟨_, ha4⟩
  · omega
  · omega
  obtain ⟨g1, g2, g3, g4, g5, g6, g7, g8, g9, g10⟩ := ha4
  obtain ⟨b1, b2, b3, b4, b5, b6⟩ := hm.1
  have w0 : IntKind.i64.wrap (pntF p m.2.2.1).2 = (pntF p m.2.2.1).2 := wrap64 (by omega) (by omega)
  rw [w0] at hn
  intro j
  induction j with
  | zero =>
    intro k r hk hk1 hr hl
    obtain ⟨l, hl1, q, hrun⟩ := hout r hr (by rw [hl, Nat.add_mul]; omega)
    refine ⟨l, hl1, arc_h48_s _ _ _ _ _ ⟨q, ?_⟩⟩
    unfold arc_h48_t
    rw [w0, hn, decide_eq_false (by omega), wrapS (k := a) (by omega)]
    exact hrun
  | succ j ih =>
    intro k r hk hk1 hr hl
    have hin := arc_in (r := (pntF p m.2.2.1).2) (n := n) (k := k) (by omega) g6 (by omega) (by omega) (by omega) (by omega)
    obtain ⟨c1, c2, c3, c4, c5, c6, c7, c8, c9, c10⟩ := arcB (r := (pntF p m.2.2.1).2) (n := n) (k := k) (by omega) g6 (by omega) (by omega) (by omega) (by omega)
    have hlen : r.length + 1 ≤ n * Q := by
      have h1 : (a + 1) * n ≤ Q * n := Nat.mul_le_mul_right n ha
      rw [Nat.add_mul] at h1
      rw [Nat.mul_comm n Q]
      omega
    have hall : n * Q ≤ 1000 * 4 := Nat.mul_le_mul (by omega) (by omega)
    have hallI : ((n : Int) * (Q : Int)) = ((n * Q : Nat) : Int) := by simp
    unfold in7 at b3 b6 g2 g3
    have hd : IntKind.i64.wrap (m.2.1.2.2 - p.2.2) = m.2.1.2.2 - p.2.2 := wrap64 (by omega) (by omega)
    have hR1 : IntKind.i64.wrap ((r.length : Int) + 1) = (r.length : Int) + 1 := wrap64 (by omega) (by omega)
    obtain ⟨x0, y0, xr, yr, hxy⟩ := hin
    generalize hx : (pntF p m.2.2.1).2 * ((n : Int) * n - (k : Int) * k) / ((n : Int) * n + (k : Int) * k) = x at *
    generalize hy : 2 * (pntF p m.2.2.1).2 * (k : Int) * n / ((n : Int) * n + (k : Int) * k) = y at *
    have f0 : (pntF p m.2.2.1).1 + (a : Int) ≤ 6 := by omega
    have htp : trnP x y ((pntF p m.2.2.1).1 + (a : Int)) := ⟨by unfold in7; omega, by unfold in7; omega, by omega, by omega⟩
    obtain ⟨t1, t2⟩ := turnN_sq (pntF p m.2.2.1).2 (((pntF p m.2.2.1).1 + (a : Int)) % 4).toNat (x, y) ⟨by dsimp only; omega, xr, by dsimp only; omega, yr⟩
    have ht : trnF x y ((pntF p m.2.2.1).1 + (a : Int)) = turnN (((pntF p m.2.2.1).1 + (a : Int)) % 4).toNat (x, y) := rfl
    rw [← ht] at t1 t2
    generalize hv : trnF x y ((pntF p m.2.2.1).1 + (a : Int)) = v at *
    dsimp only at t1
    have hdB : -80000000000 ≤ (m.2.1.2.2 - p.2.2) * ((r.length : Int) + 1) ∧ (m.2.1.2.2 - p.2.2) * ((r.length : Int) + 1) ≤ 80000000000 := by
      have e1 := Int.mul_le_mul_of_nonneg_right (show m.2.1.2.2 - p.2.2 ≤ 20000000 by omega) (show (0 : Int) ≤ (r.length : Int) + 1 by omega)
      have e2 := Int.mul_le_mul_of_nonneg_right (show -20000000 ≤ m.2.1.2.2 - p.2.2 by omega) (show (0 : Int) ≤ (r.length : Int) + 1 by omega)
      omega
    have hfp : flrP ((m.2.1.2.2 - p.2.2) * ((r.length : Int) + 1)) ((n * Q : Nat) : Int) := ⟨by omega, by omega, by omega⟩
    have hfb := flr_bd hfp
    have hlow := fl_low (d := m.2.1.2.2 - p.2.2) (i := (r.length : Int) + 1) (all := ((n * Q : Nat) : Int)) (by omega) (by omega) (by omega)
    generalize hz : (m.2.1.2.2 - p.2.2) * ((r.length : Int) + 1) / ((n * Q : Nat) : Int) = z at *
    have hnew : arcG p m (m.2.2.1.1 + v.1, m.2.2.1.2 + v.2, p.2.2 + z) := by
      refine ⟨?_, by unfold in8; dsimp only; omega, by unfold in8; dsimp only; omega, by dsimp only; omega⟩
      dsimp only
      rw [show m.2.2.1.1 + v.1 - m.2.2.1.1 = v.1 by omega, show m.2.2.1.2 + v.2 - m.2.2.1.2 = v.2 by omega, t1]
      exact hxy
    obtain ⟨l, hl1, q, hrun⟩ := ih (k + 1) (r ++ [(m.2.2.1.1 + v.1, m.2.2.1.2 + v.2, p.2.2 + z)]) (by omega) (by omega) (by
      intro y hy
      rcases List.mem_append.1 hy with hy | hy
      · exact hr y hy
      · rw [List.mem_singleton.1 hy]; exact hnew) (by rw [List.length_append, hl]; simp; omega)
    refine ⟨l, hl1, arc_h48_s _ _ _ _ _ ⟨q, ?_⟩⟩
    unfold arc_h48_t
    rw [w0, hn, hQ, decide_eq_true (show (k : Int) ≤ (n : Int) by omega), hk4, hd, hR1, hallI]
    rw [wrap64 (x := (n : Int) * n) (by omega) (by omega), wrap64 (x := (k : Int) * k) (by omega) (by omega), wrap64 (x := (n : Int) * n + (k : Int) * k) (by omega) (by omega), wrap64 (x := (n : Int) * n - (k : Int) * k) (by omega) (by omega),
      wrap64 (x := (pntF p m.2.2.1).2 * ((n : Int) * n - (k : Int) * k)) (by omega) (by omega), wrap64 (x := 2 * (pntF p m.2.2.1).2) (by omega) (by omega), wrap64 (x := 2 * (pntF p m.2.2.1).2 * (k : Int)) (by omega) (by omega), wrap64 (x := 2 * (pntF p m.2.2.1).2 * (k : Int) * n) (by omega) (by omega),
      tdiv_pos c5, tdiv_pos c9, hx, hy, wrap64 (x := x) (by omega) (by omega), wrap64 (x := y) (by omega) (by omega), wrap64 (x := (pntF p m.2.2.1).1 + (a : Int)) (by omega) (by omega), hv,
      decide_eq_false (show ¬ ((n : Int) * n + (k : Int) * k = 0) by omega), decide_eq_true htp, wrap64 (x := ((n * Q : Nat) : Int)) (by omega) (by omega), wrap64 (x := (m.2.1.2.2 - p.2.2) * ((r.length : Int) + 1)) (by omega) (by omega), decide_eq_true hfp, hz,
      wrap64 (x := m.2.2.1.1 + v.1) (by omega) (by omega), wrap64 (x := m.2.2.1.2 + v.2) (by omega) (by omega), wrap64 (x := p.2.2 + z) (by omega) (by omega), wrapS (k := k) (by omega)]
    simp only [List.length_singleton]
    rw [app_ok (m := r.length) (by decide) (by omega)]
    exact hrun
theorem arc_outer (n Q : Nat) (hn : choF (IntKind.i64.wrap (pntF p m.2.2.1).2) = (n : Int)) (hQ : quF p m = (Q : Int)) : ∀ (j a : Nat) (r : List P3), a + j = Q → (∀ x ∈ r, arcG p m x) → r.length = a * n → ∃ l, ((∀ x ∈ l, arcG p m x) ∧ l.length ≤ 4000) ∧ arc_C.Runs 34 (arc_h34 p m (a : Int) r) [.d (.sl (.st (.pair (.int .i64) (.pair (.int .i64) (.int .i64))))) l, .d (.int .i64) 0] := by
  have hb := choF_bd (IntKind.i64.wrap (pntF p m.2.2.1).2)
  have hq := quF_bd p m
  rw [hn] at hb
  rw [hQ] at hq
  intro j
  induction j with
  | zero =>
    intro a r hj hr hl
    have : a * n ≤ 4 * 1000 := Nat.mul_le_mul (by omega) (by omega)
    refine ⟨r, ⟨hr, by omega⟩, arc_h34_s _ _ _ _ ⟨0, ?_⟩⟩
    unfold arc_h34_t
    rw [hQ, ge_dec (by omega)]
  | succ j ih =>
    intro a r hj hr hl
    obtain ⟨l, hl1, q, hrun⟩ := arc_inner p m hp n Q hn hQ a (by omega) (fun r' h1 h2 => ih (a + 1) r' (by omega) h1 h2) n 1 r (by omega) (by omega) hr (by omega)
    refine ⟨l, hl1, arc_h34_s _ _ _ _ ⟨q, ?_⟩⟩
    unfold arc_h34_t
    rw [hQ, lt_dec (by omega)]
    exact hrun
theorem arc_ex : ∃ l, ((∀ x ∈ l, arcG p m x) ∧ l.length ≤ 4000) ∧ Con Tryd.prog 40 [.d (.st (.pair (.int .i64) (.pair (.int .i64) (.int .i64)))) p, .d (.st (.pair (.int .i64) (.pair (.st (.pair (.int .i64) (.pair (.int .i64) (.int .i64)))) (.pair (.st (.pair (.int .i64) (.int .i64))) (.int .i64))))) m] [.d (.sl (.st (.pair (.int .i64) (.pair (.int .i64) (.int .i64))))) l, .d (.int .i64) 0] := by
  have hb := choF_bd (IntKind.i64.wrap (pntF p m.2.2.1).2)
  have hq := quF_bd p m
  obtain ⟨n, hn⟩ := Int.eq_ofNat_of_zero_le (show 0 ≤ choF (IntKind.i64.wrap (pntF p m.2.2.1).2) by omega)
  obtain ⟨Q, hQ⟩ := Int.eq_ofNat_of_zero_le (show 0 ≤ quF p m by omega)
  obtain ⟨l, hl, q, hrun⟩ := arc_outer p m hp n Q hn hQ Q 0 [] (by omega) (by simp) (by simp)
  refine ⟨l, hl, Ctx.Res.con (C := arc_C) (ctx_ok envD4_ok) (arc_s _ _ ⟨q, ?_⟩) (fn := Tryd.f40) (by kernel_rfl) (by kernel_rfl)⟩
  have hp2 := hp
  obtain ⟨hm, hk4⟩ := hp
  rcases hm.2 with ⟨hk', hr⟩ | ⟨hk', hr⟩ | ⟨_, ha4⟩
  · omega
  · omega
  unfold arc_t
  have g4 := ha4.2.2.2.1
  have g6 := ha4.2.2.2.2.2.1
  rw [hn] at hb
  rw [hQ] at hq
  have hall : n * Q ≤ 1000 * 4 := Nat.mul_le_mul (by omega) (by omega)
  have hallI : ((n : Int) * (Q : Int)) = ((n * Q : Nat) : Int) := by simp
  rw [decide_eq_true hp2, decide_eq_true (hm.p1 ha4), hn, hQ, hallI, wrap64 (x := (pntF p m.2.2.1).2) (by omega) (by omega), decide_eq_true (show choP (pntF p m.2.2.1).2 from ⟨by omega, g6⟩), wrap64 (x := ((n * Q : Nat) : Int)) (by omega) (by omega), decide_eq_false (by omega)]
  exact hrun
end
noncomputable def arcL (p : P3) (m : Mq) : List P3 := if h : quOk p m then Classical.choose (arc_ex p m h) else []
theorem arcL_ok (p : P3) (m : Mq) (h : quOk p m) : (∀ x ∈ arcL p m, arcG p m x) ∧ (arcL p m).length ≤ 4000 := by
  unfold arcL
  rw [dif_pos h]
  exact (Classical.choose_spec (arc_ex p m h)).1
theorem arc_con (p : P3) (m : Mq) (h : quOk p m) : Con Tryd.prog 40 [.d (.st (.pair (.int .i64) (.pair (.int .i64) (.int .i64)))) p, .d (.st (.pair (.int .i64) (.pair (.st (.pair (.int .i64) (.pair (.int .i64) (.int .i64)))) (.pair (.st (.pair (.int .i64) (.int .i64))) (.int .i64))))) m] [.d (.sl (.st (.pair (.int .i64) (.pair (.int .i64) (.int .i64))))) (arcL p m), .d (.int .i64) 0] := by
  unfold arcL
  rw [dif_pos h]
  exact (Classical.choose_spec (arc_ex p m h)).2
end Go.Proofs.YtpiabmjipgfjjaaDoor

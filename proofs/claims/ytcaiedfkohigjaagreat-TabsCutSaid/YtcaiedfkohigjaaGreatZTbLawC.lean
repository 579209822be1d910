/- The law TabsCut returns true. -/
import Derived.Test.YtcaiedfkohigjaaGreatZ7
import Derived.Test.YtcaiedfkohigjaaGreatZ15
import Derived.Test.YtcaiedfkohigjaaGreatZTb8
namespace Go.Proofs.YtcaiedfkohigjaaGreat
open Go.RowKit
def tawk_tp : Spec := { keep := true, tame := true, run := fun _ args k => match args with
  | [] => k [RV.d .bool true]
  | _ => none }
theorem tawk_tpec : callable Tryz.prog 7 = true ∧ SpecOk Tryz.prog 7 tawk_tp ∧ ∀ g, tawk_tp.mut_ = some g → MCon Tryz.prog 7 g := by
  refine ⟨by kernel_rfl, fun R args k r h => ?_, fun g h => by cases h⟩
  unfold tawk_tp at h
  dsimp only at h
  split at h <;> try (cases h; done)
  exact ⟨_, h, tawk_con ⟩

def tof_sp : Spec := { keep := true, run := fun _ args k => match args with
  | [.d (.sl (.st (.pair (.int .i64) (.pair (.st (.pair (.int .i64) (.int .i64))) (.st (.pair (.int .i64) (.int .i64))))))) l] => match decide (l.length ≤ 1000) with
    | true => k [RV.new 62 (.st (.pair (.int .i64) (.pair tG tG))) l]
    | false => none
  | _ => none }
theorem tof_spec : callable Tryz.prog 12 = true ∧ SpecOk Tryz.prog 12 tof_sp ∧ ∀ g, tof_sp.mut_ = some g → MCon Tryz.prog 12 g := by
  refine ⟨by kernel_rfl, fun R args k r h => ?_, fun g h => by simp [tof_sp] at h⟩
  unfold tof_sp at h
  dsimp only at h
  split at h <;> try (cases h; done)
  split at h <;> try (cases h; done)
  rename_i hd
  exact ⟨_, h, tof_con _ (of_decide_eq_true hd)⟩

def tcl_sp : Spec := { keep := true, run := fun _ args k => match args with
  | [.d (.sl (.st (.pair (.int .i64) (.int .i64)))) p] => match decide (p.length ≤ 1000000) with
    | true => k [RV.new 23 tG p]
    | false => none
  | _ => none }
theorem tcl_spec : callable Tryz.prog 11 = true ∧ SpecOk Tryz.prog 11 tcl_sp ∧ ∀ g, tcl_sp.mut_ = some g → MCon Tryz.prog 11 g := by
  refine ⟨by kernel_rfl, fun R args k r h => ?_, fun g h => by simp [tcl_sp] at h⟩
  unfold tcl_sp at h
  dsimp only at h
  split at h <;> try (cases h; done)
  split at h <;> try (cases h; done)
  rename_i hd
  exact ⟨_, h, tcl_con _ (of_decide_eq_true hd)⟩

def tcut_sp : Spec := { keep := false, run := fun _ args k => match args with
  | [.d (.sl (.st (.pair (.int .i64) (.int .i64)))) p, .d (.sl (.st (.pair (.int .i64) (.pair (.st (.pair (.int .i64) (.int .i64))) (.st (.pair (.int .i64) (.int .i64))))))) l, .d (.int .i64) z, .d (.int .i64) top, .d (.int .i64) rate] => match decide (cutP p l) with
    | true => k [RV.d (.sl (.st (.pair (.int .i64) (.pair (.st (.pair (.int .i64) (.pair (.int .i64) (.int .i64)))) (.pair tG (.int .i64)))))) (ctF p l z top rate), RV.d (.int .i64) (cerF p l z top rate)]
    | false => none
  | _ => none }
theorem tcut_spec : callable Tryz.prog 17 = true ∧ SpecOk Tryz.prog 17 tcut_sp ∧ ∀ g, tcut_sp.mut_ = some g → MCon Tryz.prog 17 g := by
  refine ⟨by kernel_rfl, fun R args k r h => ?_, fun g h => by simp [tcut_sp] at h⟩
  unfold tcut_sp at h
  dsimp only at h
  split at h <;> try (cases h; done)
  split at h <;> try (cases h; done)
  rename_i hd
  exact ⟨_, h, tcut_con _ _ _ _ _ (of_decide_eq_true hd)⟩

def ucer_sp : Spec := { keep := true, run := fun _ args k => match args with
  | [.d (.sl (.st (.pair (.int .i64) (.int .i64)))) p, .d (.sl (.st (.pair (.int .i64) (.pair (.st (.pair (.int .i64) (.int .i64))) (.st (.pair (.int .i64) (.int .i64))))))) l, .d (.int .i64) z, .d (.int .i64) top, .d (.int .i64) rate] => match decide (valP p l) with
    | true => k [RV.d (.int .i64) (cerF p l z top rate)]
    | false => none
  | _ => none }
theorem ucer_spec : callable Tryz.prog 18 = true ∧ SpecOk Tryz.prog 18 ucer_sp ∧ ∀ g, ucer_sp.mut_ = some g → MCon Tryz.prog 18 g := by
  refine ⟨by kernel_rfl, fun R args k r h => ?_, fun g h => by simp [ucer_sp] at h⟩
  unfold ucer_sp at h
  dsimp only at h
  split at h <;> try (cases h; done)
  split at h <;> try (cases h; done)
  rename_i hd
  exact ⟨_, h, ucer_con _ _ _ _ _ (of_decide_eq_true hd)⟩

def ucut_sp : Spec := { keep := true, run := fun _ args k => match args with
  | [.d (.sl (.st (.pair (.int .i64) (.int .i64)))) p, .d (.sl (.st (.pair (.int .i64) (.pair (.st (.pair (.int .i64) (.int .i64))) (.st (.pair (.int .i64) (.int .i64))))))) l, .d (.int .i64) z, .d (.int .i64) top, .d (.int .i64) rate] => match decide (cutP p l) with
    | true => k [RV.new 82 (.st (.pair (.int .i64) (.pair (.st (.pair (.int .i64) (.pair (.int .i64) (.int .i64)))) (.pair tG (.int .i64))))) (cutR p l z top rate)]
    | false => none
  | _ => none }
theorem ucut_spec : callable Tryz.prog 20 = true ∧ SpecOk Tryz.prog 20 ucut_sp ∧ ∀ g, ucut_sp.mut_ = some g → MCon Tryz.prog 20 g := by
  refine ⟨by kernel_rfl, fun R args k r h => ?_, fun g h => by simp [ucut_sp] at h⟩
  unfold ucut_sp at h
  dsimp only at h
  split at h <;> try (cases h; done)
  split at h <;> try (cases h; done)
  rename_i hd
  exact ⟨_, h, ucut_con _ _ _ _ _ (of_decide_eq_true hd)⟩

def usam_sp : Spec := { keep := true, run := fun _ args k => match args with
  | [.d (.sl (.st (.pair (.int .i64) (.pair (.st (.pair (.int .i64) (.pair (.int .i64) (.int .i64)))) (.pair (.st (.pair (.int .i64) (.int .i64))) (.int .i64)))))) a, .d (.sl (.st (.pair (.int .i64) (.pair (.st (.pair (.int .i64) (.pair (.int .i64) (.int .i64)))) (.pair (.st (.pair (.int .i64) (.int .i64))) (.int .i64)))))) b] => match decide (samP a) with
    | true => k [RV.d .bool (decide (a = b))]
    | false => none
  | _ => none }
theorem usam_spec : callable Tryz.prog 19 = true ∧ SpecOk Tryz.prog 19 usam_sp ∧ ∀ g, usam_sp.mut_ = some g → MCon Tryz.prog 19 g := by
  refine ⟨by kernel_rfl, fun R args k r h => ?_, fun g h => by simp [usam_sp] at h⟩
  unfold usam_sp at h
  dsimp only at h
  split at h <;> try (cases h; done)
  split at h <;> try (cases h; done)
  rename_i hd
  exact ⟨_, h, usam_con _ _ (of_decide_eq_true hd)⟩

def envLc : Env := [(7, tawk_tp), (12, tof_sp), (11, tcl_sp), (17, tcut_sp), (18, ucer_sp), (20, ucut_sp), (19, usam_sp)]
theorem envLc_ok : EnvAll Tryz.prog envLc := ⟨tawk_tpec, tof_spec, tcl_spec, tcut_spec, ucer_spec, ucut_spec, usam_spec, trivial⟩
def lCu_nt : NT := []
noncomputable def lCu_C : Ctx := ⟨Tryz.prog, ft, tys, envLc, lCu_nt⟩
noncomputable def lCu_t (_k : Nat → Cfg → Option (List RV)) (p : List ((Int × Int))) (l : List (Int × ((Int × Int)) × (Int × Int))) (n : Int × Int × Int) : Option (List RV) := match !true with | true => some [RV.d .bool false] | false => (match decide ((p.length : Int) > 60) with | true => some [RV.d .bool true] | false => (match decide ((l.length : Int) > 60) with | true => some [RV.d .bool true] | false => (match decide (p.length ≤ 1000000) with | true => (match decide (l.length ≤ 1000) with | true => (match decide (cutP p l) with | true => (match decide (valP p l) with | true => (match (cerF p l n.1 n.2.1 n.2.2) != 0 with | true => (match (cerF p l n.1 n.2.1 n.2.2) == (cerF p l n.1 n.2.1 n.2.2) with | true => some [RV.d .bool (((ctF p l n.1 n.2.1 n.2.2).length : Int) == 0)] | false => some [RV.d .bool false]) | false => (match (cerF p l n.1 n.2.1 n.2.2) == 0 with | true => (match decide (cutP p l) with | true => (match decide (samP (ctF p l n.1 n.2.1 n.2.2)) with | true => some [RV.d .bool (decide ((ctF p l n.1 n.2.1 n.2.2) = (cutR p l n.1 n.2.1 n.2.2)))] | false => none) | false => none) | false => some [RV.d .bool false])) | false => none) | false => none) | false => none) | false => none)))
theorem lCu_eq (k : Nat → Cfg → Option (List RV)) (p : List ((Int × Int))) (l : List (Int × ((Int × Int)) × (Int × Int))) (n : Int × Int × Int) : go Tryz.prog ft tys envLc lCu_nt k 4000 (start 6 [.d (.sl tG) p, .d (.sl (.st (.pair (.int .i64) (.pair tG tG)))) l, .d (.st (.pair (.int .i64) (.pair (.int .i64) (.int .i64)))) n]) (.node 0) = lCu_t k p l n := (go2_eq _ _ _ _ _ _ _ _ _).symm.trans (show go2 Tryz.prog ft tys envLc lCu_nt k 4000 (start 6 [.d (.sl tG) p, .d (.sl (.st (.pair (.int .i64) (.pair tG tG)))) l, .d (.st (.pair (.int .i64) (.pair (.int .i64) (.int .i64)))) n]) (.node 0) = lCu_t k p l n by kernel_rfl)
theorem lCu_s (p : List ((Int × Int))) (l : List (Int × ((Int × Int)) × (Int × Int))) (n : Int × Int × Int) {rX : List RV} (hX : ∃ nX, lCu_t (lCu_C.k nX) p l n = some rX) : lCu_C.Res 6 [.d (.sl tG) p, .d (.sl (.st (.pair (.int .i64) (.pair tG tG)))) l, .d (.st (.pair (.int .i64) (.pair (.int .i64) (.int .i64)))) n] rX := by
  obtain ⟨nX, hX⟩ := hX
  exact ⟨nX, (lCu_eq _ p l n).trans hX⟩
theorem lCu_con (p : List (Int × Int)) (l : List TB) (n : Int × Int × Int) (_ : Ty.ok (.sl tG) p) (_ : Ty.ok (.sl (.st (.pair (.int .i64) (.pair tG tG)))) l) (_ : Ty.ok (.st (.pair (.int .i64) (.pair (.int .i64) (.int .i64)))) n) : Con Tryz.prog 6 [.d (.sl tG) p, .d (.sl (.st (.pair (.int .i64) (.pair tG tG)))) l, .d (.st (.pair (.int .i64) (.pair (.int .i64) (.int .i64)))) n] [.d .bool true] := by
  refine Ctx.Res.con (C := lCu_C) (ctx_ok envLc_ok) ?_ (fn := Tryz.f6) (by kernel_rfl) (by kernel_rfl)
  refine lCu_s _ _ _ ⟨0, ?_⟩
  unfold lCu_t
  cases hp : decide ((p.length : Int) > 60) with
  | true => rfl
  | false =>
    dsimp only
    cases hl : decide ((l.length : Int) > 60) with
    | true => rfl
    | false =>
      have hbp : p.length ≤ 60 := by have := of_decide_eq_false hp; omega
      have hbl : l.length ≤ 60 := by have := of_decide_eq_false hl; omega
      have hv : valP p l := ⟨by show p.length ≤ 1000000000; omega, by omega⟩
      have hc : cutP p l := ⟨by omega, by omega⟩
      have hlen : ∀ s i j, ((List.range' i j).flatMap (rowM p n.1 n.2.1 n.2.2 s)).length ≤ j * (4 * s.length + 1) := by
        intro s i j
        induction j generalizing i with
        | zero => simp
        | succ j ih =>
          rw [List.range'_succ, List.flatMap_cons, List.length_append]
          have h1 := ih (i + 1)
          have h2 : (rowM p n.1 n.2.1 n.2.2 s i).length ≤ 4 * s.length + 1 := by
            unfold rowM
            have h3 : ∀ m : List TB, (m.flatMap (tabM n.1 n.2.1 n.2.2)).length = 4 * m.length := by
              intro m
              induction m with
              | nil => rfl
              | cons t m ih => rw [List.flatMap_cons, List.length_append, ih, List.length_cons, show (tabM n.1 n.2.1 n.2.2 t).length = 4 from rfl]; omega
            have h4 := List.length_filter_le (fun t : TB => t.1 == (i : Int)) s
            rw [List.length_append, h3, List.length_singleton]
            omega
          rw [Nat.succ_mul]
          omega
      have hs : samP (cutR p l n.1 n.2.1 n.2.2) := by
        have h1 := hlen l 0 p.length
        have h2 := Nat.mul_le_mul hbp (show 4 * l.length + 1 ≤ 241 by omega)
        show (cutR p l n.1 n.2.1 n.2.2).length ≤ 1000000000
        unfold cutR
        omega
      rw [dT (show p.length ≤ 1000000 by omega), dT (show l.length ≤ 1000 by omega), dT hc, dT hv]
      unfold cerF ctF
      cases okC p l n.1 n.2.1 n.2.2 with
      | false => rfl
      | true =>
        simp only [cond_true, dT hs]
        simp
end Go.Proofs.YtcaiedfkohigjaaGreat

/- The law TabsBridged returns true. -/
import Derived.Test.YtcaiedfkohigjaaGreatZ7
import Derived.Test.YtcaiedfkohigjaaGreatZ15
import Derived.Test.YtcaiedfkohigjaaGreatZTb6
import Derived.Test.YtcaiedfkohigjaaGreatZTb7
namespace Go.Proofs.YtcaiedfkohigjaaGreat
open Go.RowKit
def tawk_tp : Spec := { keep := true, tame := true, run := fun _ args k => match args with
  | [] => k [RV.d .bool true]
  | _ => none }
theorem tawk_tpec : callable Tryz.prog 7 = true ∧ SpecOk Tryz.prog 7 tawk_tp ∧ ∀ g, tawk_tp.mut_ = some g → MCon Tryz.prog 7 g := by
  refine ⟨by kernel_rfl, fun R args k r h => ?_, fun g h => by cases h⟩
  unfold tawk_tp at h
  dsimp only at h
  split at h <;> try (cases h; done)
  exact ⟨_, h, tawk_con ⟩

def tof_sp : Spec := { keep := true, run := fun _ args k => match args with
  | [.d (.sl (.st (.pair (.int .i64) (.pair (.st (.pair (.int .i64) (.int .i64))) (.st (.pair (.int .i64) (.int .i64))))))) l] => match decide (l.length ≤ 1000) with
    | true => k [RV.new 62 (.st (.pair (.int .i64) (.pair tG tG))) l]
    | false => none
  | _ => none }
theorem tof_spec : callable Tryz.prog 12 = true ∧ SpecOk Tryz.prog 12 tof_sp ∧ ∀ g, tof_sp.mut_ = some g → MCon Tryz.prog 12 g := by
  refine ⟨by kernel_rfl, fun R args k r h => ?_, fun g h => by simp [tof_sp] at h⟩
  unfold tof_sp at h
  dsimp only at h
  split at h <;> try (cases h; done)
  split at h <;> try (cases h; done)
  rename_i hd
  exact ⟨_, h, tof_con _ (of_decide_eq_true hd)⟩

noncomputable def uat2_tp : Spec := { keep := false, tame := true, run := fun _ args k => match args with
  | [.d (.st (.pair (.int .i16) (.pair (.int .i16) (.int .u8)))) s] => match decide (spotP s) with
    | true => k [RV.d tV (hid (enc (at2R s)))]
    | false => none
  | _ => none }
theorem uat2_tpec : callable Tryz.prog 15 = true ∧ SpecOk Tryz.prog 15 uat2_tp ∧ ∀ g, uat2_tp.mut_ = some g → MCon Tryz.prog 15 g := by
  refine ⟨by kernel_rfl, fun R args k r h => ?_, fun g h => by cases h⟩
  unfold uat2_tp at h
  dsimp only at h
  split at h <;> try (cases h; done)
  split at h <;> try (cases h; done)
  rename_i hd
  simp only [hid_eq] at h
  exact ⟨_, h, uat2_con _ (of_decide_eq_true hd)⟩

def tbri_sp : Spec := { keep := true, run := fun _ args k => match args with
  | [.d (.sl (.st (.pair (.int .i64) (.pair (.st (.pair (.int .i64) (.int .i64))) (.st (.pair (.int .i64) (.int .i64))))))) l, .d (.st (.pair (.st (.pair (.st (.pair .bool (.sl (.int .u32)))) (.st (.pair .bool (.sl (.int .u32)))))) (.st (.pair (.st (.pair .bool (.sl (.int .u32)))) (.st (.pair .bool (.sl (.int .u32)))))))) v, .d (.int .i64) r] => match decide (briP l v r) with
    | true => k [RV.d .bool (briF l (dec v) r)]
    | false => none
  | _ => none }
theorem tbri_spec : callable Tryz.prog 14 = true ∧ SpecOk Tryz.prog 14 tbri_sp ∧ ∀ g, tbri_sp.mut_ = some g → MCon Tryz.prog 14 g := by
  refine ⟨by kernel_rfl, fun R args k r h => ?_, fun g h => by simp [tbri_sp] at h⟩
  unfold tbri_sp at h
  dsimp only at h
  split at h <;> try (cases h; done)
  split at h <;> try (cases h; done)
  rename_i hd
  exact ⟨_, h, tbri_con _ _ _ (of_decide_eq_true hd)⟩

def ubri_sp : Spec := { keep := true, run := fun _ args k => match args with
  | [.d (.sl (.st (.pair (.int .i64) (.pair (.st (.pair (.int .i64) (.int .i64))) (.st (.pair (.int .i64) (.int .i64))))))) l, .d (.st (.pair (.st (.pair (.st (.pair .bool (.sl (.int .u32)))) (.st (.pair .bool (.sl (.int .u32)))))) (.st (.pair (.st (.pair .bool (.sl (.int .u32)))) (.st (.pair .bool (.sl (.int .u32)))))))) v, .d (.int .i64) r] => match decide (briP l v r) with
    | true => k [RV.d .bool (briF l (dec v) r)]
    | false => none
  | _ => none }
theorem ubri_spec : callable Tryz.prog 16 = true ∧ SpecOk Tryz.prog 16 ubri_sp ∧ ∀ g, ubri_sp.mut_ = some g → MCon Tryz.prog 16 g := by
  refine ⟨by kernel_rfl, fun R args k r h => ?_, fun g h => by simp [ubri_sp] at h⟩
  unfold ubri_sp at h
  dsimp only at h
  split at h <;> try (cases h; done)
  split at h <;> try (cases h; done)
  rename_i hd
  exact ⟨_, h, ubri_con _ _ _ (of_decide_eq_true hd)⟩

noncomputable def envLb : Env := [(7, tawk_tp), (12, tof_sp), (15, uat2_tp), (14, tbri_sp), (16, ubri_sp)]
theorem envLb_ok : EnvAll Tryz.prog envLb := ⟨tawk_tpec, tof_spec, uat2_tpec, tbri_spec, ubri_spec, trivial⟩
def lBr_nt : NT := []
noncomputable def lBr_C : Ctx := ⟨Tryz.prog, ft, tys, envLb, lBr_nt⟩
noncomputable def lBr_t (_k : Nat → Cfg → Option (List RV)) (l : List (Int × ((Int × Int)) × (Int × Int))) (v : Int × Int × Int) (r : Int) : Option (List RV) := match !true with | true => some [RV.d .bool false] | false => (match decide ((l.length : Int) > 60) with | true => some [RV.d .bool true] | false => (match decide (r > 20000000) with | true => some [RV.d .bool true] | false => (match decide (l.length ≤ 1000) with | true => (match decide (spotP v) with | true => (match decide (briP l (hid (enc (at2R v))) r) with | true => (match decide (spotP v) with | true => (match decide (briP l (hid (enc (at2R v))) r) with | true => some [RV.d .bool ((briF l (dec (hid (enc (at2R v)))) r) == (briF l (dec (hid (enc (at2R v)))) r))] | false => none) | false => none) | false => none) | false => none) | false => none)))
theorem lBr_eq (k : Nat → Cfg → Option (List RV)) (l : List (Int × ((Int × Int)) × (Int × Int))) (v : Int × Int × Int) (r : Int) : go Tryz.prog ft tys envLb lBr_nt k 4000 (start 5 [.d (.sl (.st (.pair (.int .i64) (.pair tG tG)))) l, .d (.st (.pair (.int .i16) (.pair (.int .i16) (.int .u8)))) v, SI r]) (.node 0) = lBr_t k l v r := (go2_eq _ _ _ _ _ _ _ _ _).symm.trans (show go2 Tryz.prog ft tys envLb lBr_nt k 4000 (start 5 [.d (.sl (.st (.pair (.int .i64) (.pair tG tG)))) l, .d (.st (.pair (.int .i16) (.pair (.int .i16) (.int .u8)))) v, SI r]) (.node 0) = lBr_t k l v r by kernel_rfl)
theorem lBr_s (l : List (Int × ((Int × Int)) × (Int × Int))) (v : Int × Int × Int) (r : Int) {rX : List RV} (hX : ∃ nX, lBr_t (lBr_C.k nX) l v r = some rX) : lBr_C.Res 5 [.d (.sl (.st (.pair (.int .i64) (.pair tG tG)))) l, .d (.st (.pair (.int .i16) (.pair (.int .i16) (.int .u8)))) v, SI r] rX := by
  obtain ⟨nX, hX⟩ := hX
  exact ⟨nX, (lBr_eq _ l v r).trans hX⟩
theorem lBr_con (l : List TB) (v : Int × Int × Int) (r : Int) (_kl : Ty.ok (.sl (.st (.pair (.int .i64) (.pair tG tG)))) l) (kv : Ty.ok (.st (.pair (.int .i16) (.pair (.int .i16) (.int .u8)))) v) (kr : Ty.ok (.int .i64) r) : Con Tryz.prog 5 [.d (.sl (.st (.pair (.int .i64) (.pair tG tG)))) l, .d (.st (.pair (.int .i16) (.pair (.int .i16) (.int .u8)))) v, .d (.int .i64) r] [.d .bool true] := by
  refine Ctx.Res.con (C := lBr_C) (ctx_ok envLb_ok) ?_ (fn := Tryz.f5) (by kernel_rfl) (by kernel_rfl)
  refine lBr_s _ _ _ ⟨0, ?_⟩
  unfold lBr_t
  have hr : i64P r := bounds_i64 kr
  have hv : spotP v := by
    have h1 := bounds_i16 kv.1
    have h2 := bounds_i16 kv.2.1
    have h3 := bounds_u8 kv.2.2
    exact ⟨h1.1, h1.2, h2.1, h2.2, h3.1, h3.2⟩
  have b1 := bd_at2 hv
  cases hl : decide ((l.length : Int) > 60) with
  | true => rfl
  | false =>
    dsimp only
    cases decide (r > 20000000) with
    | true => rfl
    | false =>
      have hb : l.length ≤ 60 := by have := of_decide_eq_false hl; omega
      have hok : ok (Rat × Rat) 100 (enc (at2R v)) := of_decide_eq_true (okd (by decide) (by decide))
      have hp : briP l (enc (at2R v)) r := ⟨by omega, hok, hr⟩
      rw [dT (show l.length ≤ 1000 by omega), dT hv]
      simp only [hid_eq, dT hp, beq_self_eq_true, Bool.not_true]
end Go.Proofs.YtcaiedfkohigjaaGreat

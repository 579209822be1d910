/- The reference's fractions. -/
import Derived.Test.YtcaiedfkohigjaaGreatZ12
namespace Go.Proofs.YtcaiedfkohigjaaGreat
open Go.RowKit
def qisg_sp : Spec := { keep := true, run := fun _ args k => match args with
  | [.d (.st (.pair .bool (.sl (.int .u32)))) x] => match decide (okI x) with
    | true => k [RV.d (.int .i64) (cmpI (decI x) 0)]
    | false => none
  | _ => none }
theorem qisg_spec : callable Tryz.prog 100 = true ∧ SpecOk Tryz.prog 100 qisg_sp ∧ ∀ g, qisg_sp.mut_ = some g → MCon Tryz.prog 100 g := by
  refine ⟨by kernel_rfl, fun R args k r h => ?_, fun g h => by simp [qisg_sp] at h⟩
  unfold qisg_sp at h
  dsimp only at h
  split at h <;> try (cases h; done)
  split at h <;> try (cases h; done)
  rename_i hd
  exact ⟨_, h, qisg_con _ (of_decide_eq_true hd)⟩

def qicm_sp : Spec := { keep := true, run := fun _ args k => match args with
  | [.d (.st (.pair .bool (.sl (.int .u32)))) x, .d (.st (.pair .bool (.sl (.int .u32)))) y] => match decide (okI x ∧ okI y) with
    | true => k [RV.d (.int .i64) (cmpI (decI x) (decI y))]
    | false => none
  | _ => none }
theorem qicm_spec : callable Tryz.prog 61 = true ∧ SpecOk Tryz.prog 61 qicm_sp ∧ ∀ g, qicm_sp.mut_ = some g → MCon Tryz.prog 61 g := by
  refine ⟨by kernel_rfl, fun R args k r h => ?_, fun g h => by simp [qicm_sp] at h⟩
  unfold qicm_sp at h
  dsimp only at h
  split at h <;> try (cases h; done)
  split at h <;> try (cases h; done)
  rename_i hd
  exact ⟨_, h, qicm_con _ _ (of_decide_eq_true hd)⟩

def qimu_sp : Spec := { keep := false, run := fun _ args k => match args with
  | [.d (.st (.pair .bool (.sl (.int .u32)))) x, .d (.st (.pair .bool (.sl (.int .u32)))) y] => match decide (okI x ∧ okI y) with
    | true => k [RV.d (.st (.pair .bool (.sl (.int .u32)))) (encI (decI x * decI y))]
    | false => none
  | _ => none }
theorem qimu_spec : callable Tryz.prog 62 = true ∧ SpecOk Tryz.prog 62 qimu_sp ∧ ∀ g, qimu_sp.mut_ = some g → MCon Tryz.prog 62 g := by
  refine ⟨by kernel_rfl, fun R args k r h => ?_, fun g h => by simp [qimu_sp] at h⟩
  unfold qimu_sp at h
  dsimp only at h
  split at h <;> try (cases h; done)
  split at h <;> try (cases h; done)
  rename_i hd
  exact ⟨_, h, qimu_con _ _ (of_decide_eq_true hd)⟩

def qidm_sp : Spec := { keep := false, run := fun _ args k => match args with
  | [.d (.st (.pair .bool (.sl (.int .u32)))) x, .d (.st (.pair .bool (.sl (.int .u32)))) y] => match decide (idmP x y) with
    | true => k [RV.d (.st (.pair .bool (.sl (.int .u32)))) (encI (decI x / decI y)), RV.d (.st (.pair .bool (.sl (.int .u32)))) (encI (decI x % decI y)), RV.d (.int .i64) 0]
    | false => none
  | _ => none }
theorem qidm_spec : callable Tryz.prog 103 = true ∧ SpecOk Tryz.prog 103 qidm_sp ∧ ∀ g, qidm_sp.mut_ = some g → MCon Tryz.prog 103 g := by
  refine ⟨by kernel_rfl, fun R args k r h => ?_, fun g h => by simp [qidm_sp] at h⟩
  unfold qidm_sp at h
  dsimp only at h
  split at h <;> try (cases h; done)
  split at h <;> try (cases h; done)
  rename_i hd
  exact ⟨_, h, qidm_con _ _ (of_decide_eq_true hd)⟩

def qgcd_sp : Spec := { keep := false, run := fun _ args k => match args with
  | [.d (.st (.pair .bool (.sl (.int .u32)))) x, .d (.st (.pair .bool (.sl (.int .u32)))) y] => match decide (okI x ∧ okI y) with
    | true => k [RV.d (.st (.pair .bool (.sl (.int .u32)))) (encI ((Int.gcd (decI x) (decI y) : Nat) : Int))]
    | false => none
  | _ => none }
theorem qgcd_spec : callable Tryz.prog 102 = true ∧ SpecOk Tryz.prog 102 qgcd_sp ∧ ∀ g, qgcd_sp.mut_ = some g → MCon Tryz.prog 102 g := by
  refine ⟨by kernel_rfl, fun R args k r h => ?_, fun g h => by simp [qgcd_sp] at h⟩
  unfold qgcd_sp at h
  dsimp only at h
  split at h <;> try (cases h; done)
  split at h <;> try (cases h; done)
  rename_i hd
  exact ⟨_, h, qgcd_con _ _ (of_decide_eq_true hd)⟩

def envQg6 : Env := [(65, qfri_sp), (136, qiad_sp), (101, qing_sp), (100, qisg_sp), (61, qicm_sp), (62, qimu_sp), (103, qidm_sp), (102, qgcd_sp)]
theorem envQg6_ok : EnvAll Tryz.prog envQg6 := ⟨qfri_spec, qiad_spec, qing_spec, qisg_spec, qicm_spec, qimu_spec, qidm_spec, qgcd_spec, trivial⟩
def qunt_nt : NT := []
noncomputable def qunt_C : Ctx := ⟨Tryz.prog, ft, tys, envQg6, qunt_nt⟩
noncomputable def qunt_t (_k : Nat → Cfg → Option (List RV)) : Option (List RV) := match decide (i64P (1 : Int)) with | true => some [RV.d (.st (.pair .bool (.sl (.int .u32)))) (encI (1 : Int))] | false => none
theorem qunt_eq (k : Nat → Cfg → Option (List RV)) : go Tryz.prog ft tys envQg6 qunt_nt k 4000 (start 66 []) (.node 0) = qunt_t k := (go2_eq _ _ _ _ _ _ _ _ _).symm.trans (show go2 Tryz.prog ft tys envQg6 qunt_nt k 4000 (start 66 []) (.node 0) = qunt_t k by kernel_rfl)
theorem qunt_s {rX : List RV} (hX : ∃ nX, qunt_t (qunt_C.k nX) = some rX) : qunt_C.Res 66 [] rX := by
  obtain ⟨nX, hX⟩ := hX
  exact ⟨nX, (qunt_eq _).trans hX⟩
theorem qunt_con : Con Tryz.prog 66 [] [.d (.st (.pair .bool (.sl (.int .u32)))) (encI 1)] := by
  refine Ctx.Res.con (C := qunt_C) (ctx_ok envQg6_ok) (qunt_s ⟨0, ?_⟩) (fn := Tryz.f66) (by kernel_rfl) (by kernel_rfl)
  unfold qunt_t
  rw [dT (show i64P 1 by decide)]
def qunt_sp : Spec := { keep := false, run := fun _ args k => match args with
  | [] => k [RV.d (.st (.pair .bool (.sl (.int .u32)))) (encI 1)]
  | _ => none }
theorem qunt_spec : callable Tryz.prog 66 = true ∧ SpecOk Tryz.prog 66 qunt_sp ∧ ∀ g, qunt_sp.mut_ = some g → MCon Tryz.prog 66 g := by
  refine ⟨by kernel_rfl, fun R args k r h => ?_, fun g h => by simp [qunt_sp] at h⟩
  unfold qunt_sp at h
  dsimp only at h
  split at h <;> try (cases h; done)
  exact ⟨_, h, qunt_con ⟩

def envQg7 : Env := [(65, qfri_sp), (136, qiad_sp), (101, qing_sp), (100, qisg_sp), (61, qicm_sp), (62, qimu_sp), (103, qidm_sp), (102, qgcd_sp), (66, qunt_sp)]
theorem envQg7_ok : EnvAll Tryz.prog envQg7 := ⟨qfri_spec, qiad_spec, qing_spec, qisg_spec, qicm_spec, qimu_spec, qidm_spec, qgcd_spec, qunt_spec, trivial⟩
def qof_nt : NT := []
noncomputable def qof_C : Ctx := ⟨Tryz.prog, ft, tys, envQg7, qof_nt⟩
noncomputable def qof_t (_k : Nat → Cfg → Option (List RV)) (x : Bool × List Int) (y : Bool × List Int) : Option (List RV) := match decide (okI y) with | true => (match decide ((cmpI (decI y) 0) < 0) with | true => (match decide (okI x) with | true => (match decide (okI y) with | true => (match decide (okI (encI (-decI x)) ∧ okI (encI (-decI y))) with | true => (match decide (idmP (encI (-decI x)) (encI ((Int.gcd (decI (encI (-decI x))) (decI (encI (-decI y))) : Nat) : Int))) with | true => (match decide (idmP (encI (-decI y)) (encI ((Int.gcd (decI (encI (-decI x))) (decI (encI (-decI y))) : Nat) : Int))) with | true => some [RV.d (.st (.pair (.st (.pair .bool (.sl (.int .u32)))) (.st (.pair .bool (.sl (.int .u32)))))) ((encI (decI (encI (-decI x)) / decI (encI ((Int.gcd (decI (encI (-decI x))) (decI (encI (-decI y))) : Nat) : Int)))), (encI (decI (encI (-decI y)) / decI (encI ((Int.gcd (decI (encI (-decI x))) (decI (encI (-decI y))) : Nat) : Int)))))] | false => none) | false => none) | false => none) | false => none) | false => none) | false => (match decide (okI x ∧ okI y) with | true => (match decide (idmP x (encI ((Int.gcd (decI x) (decI y) : Nat) : Int))) with | true => (match decide (idmP y (encI ((Int.gcd (decI x) (decI y) : Nat) : Int))) with | true => some [RV.d (.st (.pair (.st (.pair .bool (.sl (.int .u32)))) (.st (.pair .bool (.sl (.int .u32)))))) ((encI (decI x / decI (encI ((Int.gcd (decI x) (decI y) : Nat) : Int)))), (encI (decI y / decI (encI ((Int.gcd (decI x) (decI y) : Nat) : Int)))))] | false => none) | false => none) | false => none)) | false => none
theorem qof_eq (k : Nat → Cfg → Option (List RV)) (x : Bool × List Int) (y : Bool × List Int) : go Tryz.prog ft tys envQg7 qof_nt k 4000 (start 71 [.d (.st (.pair .bool (.sl (.int .u32)))) x, .d (.st (.pair .bool (.sl (.int .u32)))) y]) (.node 0) = qof_t k x y := (go2_eq _ _ _ _ _ _ _ _ _).symm.trans (show go2 Tryz.prog ft tys envQg7 qof_nt k 4000 (start 71 [.d (.st (.pair .bool (.sl (.int .u32)))) x, .d (.st (.pair .bool (.sl (.int .u32)))) y]) (.node 0) = qof_t k x y by kernel_rfl)
theorem qof_s (x : Bool × List Int) (y : Bool × List Int) {rX : List RV} (hX : ∃ nX, qof_t (qof_C.k nX) x y = some rX) : qof_C.Res 71 [.d (.st (.pair .bool (.sl (.int .u32)))) x, .d (.st (.pair .bool (.sl (.int .u32)))) y] rX := by
  obtain ⟨nX, hX⟩ := hX
  exact ⟨nX, (qof_eq _ x y).trans hX⟩
theorem qof_con (x : Bool × List Int) (y : Bool × List Int) (h : redP x y) : Con Tryz.prog 71 [.d (.st (.pair .bool (.sl (.int .u32)))) x, .d (.st (.pair .bool (.sl (.int .u32)))) y] [.d (.st (.pair (.st (.pair .bool (.sl (.int .u32)))) (.st (.pair .bool (.sl (.int .u32)))))) (redR x y)] := by
  refine Ctx.Res.con (C := qof_C) (ctx_ok envQg7_ok) (qof_s _ _ ⟨0, ?_⟩) (fn := Tryz.f71) (by kernel_rfl) (by kernel_rfl)
  obtain ⟨hx, hy, hne⟩ := h
  have sx := okI_sz hx
  have sy := okI_sz hy
  have hgp : 0 < Int.gcd (decI x) (decI y) := Nat.pos_of_ne_zero fun e => hne (Int.gcd_eq_zero_iff.1 e).2
  have hgs := gcd_sz (a := decI x) hne sy
  have og : okI (encI ((Int.gcd (decI x) (decI y) : Nat) : Int)) := okI_enc hgs
  have o1 : okI (encI (-decI x)) := okI_enc (by rw [szI_neg]; exact sx)
  have o2 : okI (encI (-decI y)) := okI_enc (by rw [szI_neg]; exact sy)
  have ig : ∀ z : BI, okI z → idmP z (encI ((Int.gcd (decI x) (decI y) : Nat) : Int)) := fun z hz => ⟨hz, og, by rw [dec_enc]; omega⟩
  unfold qof_t redR
  rw [dT hy]
  dsimp only
  rcases Int.lt_or_lt_of_ne hne with hn | hn
  · rw [cmpI_lt hn, dT (show (-1 : Int) < 0 by decide), dT hx]
    simp only [dec_enc, Int.gcd_neg, Int.neg_gcd]
    rw [dT (show okI (encI (-decI x)) ∧ okI (encI (-decI y)) from ⟨o1, o2⟩), dT (ig _ o1), dT (ig _ o2), ← Rat.neg_divInt_neg, enc_divInt (by omega), Int.gcd_neg, Int.neg_gcd]
  · rw [cmpI_gt hn, dF (show ¬ (1 : Int) < 0 by decide)]
    simp only [dec_enc]
    rw [dT (show okI x ∧ okI y from ⟨hx, hy⟩), dT (ig _ hx), dT (ig _ hy), enc_divInt hn]
def qof_sp : Spec := { keep := false, run := fun _ args k => match args with
  | [.d (.st (.pair .bool (.sl (.int .u32)))) x, .d (.st (.pair .bool (.sl (.int .u32)))) y] => match decide (redP x y) with
    | true => k [RV.d (.st (.pair (.st (.pair .bool (.sl (.int .u32)))) (.st (.pair .bool (.sl (.int .u32)))))) (redR x y)]
    | false => none
  | _ => none }
theorem qof_spec : callable Tryz.prog 71 = true ∧ SpecOk Tryz.prog 71 qof_sp ∧ ∀ g, qof_sp.mut_ = some g → MCon Tryz.prog 71 g := by
  refine ⟨by kernel_rfl, fun R args k r h => ?_, fun g h => by simp [qof_sp] at h⟩
  unfold qof_sp at h
  dsimp only at h
  split at h <;> try (cases h; done)
  split at h <;> try (cases h; done)
  rename_i hd
  exact ⟨_, h, qof_con _ _ (of_decide_eq_true hd)⟩

def envQg8 : Env := [(65, qfri_sp), (136, qiad_sp), (101, qing_sp), (100, qisg_sp), (61, qicm_sp), (62, qimu_sp), (103, qidm_sp), (102, qgcd_sp), (66, qunt_sp), (71, qof_sp)]
theorem envQg8_ok : EnvAll Tryz.prog envQg8 := ⟨qfri_spec, qiad_spec, qing_spec, qisg_spec, qicm_spec, qimu_spec, qidm_spec, qgcd_spec, qunt_spec, qof_spec, trivial⟩
def qrsg_nt : NT := []
noncomputable def qrsg_C : Ctx := ⟨Tryz.prog, ft, tys, envQg8, qrsg_nt⟩
noncomputable def qrsg_t (_k : Nat → Cfg → Option (List RV)) (a : (Bool × List Int) × Bool × List Int) : Option (List RV) := match decide (okI a.1) with | true => some [RV.d (.int .i64) (cmpI (decI a.1) 0)] | false => none
theorem qrsg_eq (k : Nat → Cfg → Option (List RV)) (a : (Bool × List Int) × Bool × List Int) : go Tryz.prog ft tys envQg8 qrsg_nt k 4000 (start 125 [.d (.st (.pair (.st (.pair .bool (.sl (.int .u32)))) (.st (.pair .bool (.sl (.int .u32)))))) a]) (.node 0) = qrsg_t k a := (go2_eq _ _ _ _ _ _ _ _ _).symm.trans (show go2 Tryz.prog ft tys envQg8 qrsg_nt k 4000 (start 125 [.d (.st (.pair (.st (.pair .bool (.sl (.int .u32)))) (.st (.pair .bool (.sl (.int .u32)))))) a]) (.node 0) = qrsg_t k a by kernel_rfl)
theorem qrsg_s (a : (Bool × List Int) × Bool × List Int) {rX : List RV} (hX : ∃ nX, qrsg_t (qrsg_C.k nX) a = some rX) : qrsg_C.Res 125 [.d (.st (.pair (.st (.pair .bool (.sl (.int .u32)))) (.st (.pair .bool (.sl (.int .u32)))))) a] rX := by
  obtain ⟨nX, hX⟩ := hX
  exact ⟨nX, (qrsg_eq _ a).trans hX⟩
def qrfi_nt : NT := []
noncomputable def qrfi_C : Ctx := ⟨Tryz.prog, ft, tys, envQg8, qrfi_nt⟩
noncomputable def qrfi_t (_k : Nat → Cfg → Option (List RV)) (n : Int) : Option (List RV) := match decide (i64P n) with | true => some [RV.d (.st (.pair (.st (.pair .bool (.sl (.int .u32)))) (.st (.pair .bool (.sl (.int .u32)))))) ((encI n), (encI 1))] | false => none
theorem qrfi_eq (k : Nat → Cfg → Option (List RV)) (n : Int) : go Tryz.prog ft tys envQg8 qrfi_nt k 4000 (start 33 [SI n]) (.node 0) = qrfi_t k n := (go2_eq _ _ _ _ _ _ _ _ _).symm.trans (show go2 Tryz.prog ft tys envQg8 qrfi_nt k 4000 (start 33 [SI n]) (.node 0) = qrfi_t k n by kernel_rfl)
theorem qrfi_s (n : Int) {rX : List RV} (hX : ∃ nX, qrfi_t (qrfi_C.k nX) n = some rX) : qrfi_C.Res 33 [SI n] rX := by
  obtain ⟨nX, hX⟩ := hX
  exact ⟨nX, (qrfi_eq _ n).trans hX⟩
def qrcm_nt : NT := []
noncomputable def qrcm_C : Ctx := ⟨Tryz.prog, ft, tys, envQg8, qrcm_nt⟩
noncomputable def qrcm_t (_k : Nat → Cfg → Option (List RV)) (a : (Bool × List Int) × Bool × List Int) (b : (Bool × List Int) × Bool × List Int) : Option (List RV) := match decide (okI a.1 ∧ okI b.2) with | true => (match decide (okI b.1 ∧ okI a.2) with | true => (match decide (okI (encI (decI a.1 * decI b.2)) ∧ okI (encI (decI b.1 * decI a.2))) with | true => some [RV.d (.int .i64) (cmpI (decI (encI (decI a.1 * decI b.2))) (decI (encI (decI b.1 * decI a.2))))] | false => none) | false => none) | false => none
theorem qrcm_eq (k : Nat → Cfg → Option (List RV)) (a : (Bool × List Int) × Bool × List Int) (b : (Bool × List Int) × Bool × List Int) : go Tryz.prog ft tys envQg8 qrcm_nt k 4000 (start 30 [.d (.st (.pair (.st (.pair .bool (.sl (.int .u32)))) (.st (.pair .bool (.sl (.int .u32)))))) a, .d (.st (.pair (.st (.pair .bool (.sl (.int .u32)))) (.st (.pair .bool (.sl (.int .u32)))))) b]) (.node 0) = qrcm_t k a b := (go2_eq _ _ _ _ _ _ _ _ _).symm.trans (show go2 Tryz.prog ft tys envQg8 qrcm_nt k 4000 (start 30 [.d (.st (.pair (.st (.pair .bool (.sl (.int .u32)))) (.st (.pair .bool (.sl (.int .u32)))))) a, .d (.st (.pair (.st (.pair .bool (.sl (.int .u32)))) (.st (.pair .bool (.sl (.int .u32)))))) b]) (.node 0) = qrcm_t k a b by kernel_rfl)
theorem qrcm_s (a : (Bool × List Int) × Bool × List Int) (b : (Bool × List Int) × Bool × List Int) {rX : List RV} (hX : ∃ nX, qrcm_t (qrcm_C.k nX) a b = some rX) : qrcm_C.Res 30 [.d (.st (.pair (.st (.pair .bool (.sl (.int .u32)))) (.st (.pair .bool (.sl (.int .u32)))))) a, .d (.st (.pair (.st (.pair .bool (.sl (.int .u32)))) (.st (.pair .bool (.sl (.int .u32)))))) b] rX := by
  obtain ⟨nX, hX⟩ := hX
  exact ⟨nX, (qrcm_eq _ a b).trans hX⟩
def qrad_nt : NT := []
noncomputable def qrad_C : Ctx := ⟨Tryz.prog, ft, tys, envQg8, qrad_nt⟩
noncomputable def qrad_t (_k : Nat → Cfg → Option (List RV)) (a : (Bool × List Int) × Bool × List Int) (b : (Bool × List Int) × Bool × List Int) : Option (List RV) := match decide (okI a.1 ∧ okI b.2) with | true => (match decide (okI b.1 ∧ okI a.2) with | true => (match decide (okI (encI (decI a.1 * decI b.2)) ∧ okI (encI (decI b.1 * decI a.2))) with | true => (match decide (okI a.2 ∧ okI b.2) with | true => (match decide (redP (encI (decI (encI (decI a.1 * decI b.2)) + decI (encI (decI b.1 * decI a.2)))) (encI (decI a.2 * decI b.2))) with | true => some [RV.d (.st (.pair (.st (.pair .bool (.sl (.int .u32)))) (.st (.pair .bool (.sl (.int .u32)))))) (((redR (encI (decI (encI (decI a.1 * decI b.2)) + decI (encI (decI b.1 * decI a.2)))) (encI (decI a.2 * decI b.2))).1), ((redR (encI (decI (encI (decI a.1 * decI b.2)) + decI (encI (decI b.1 * decI a.2)))) (encI (decI a.2 * decI b.2))).2))] | false => none) | false => none) | false => none) | false => none) | false => none
theorem qrad_eq (k : Nat → Cfg → Option (List RV)) (a : (Bool × List Int) × Bool × List Int) (b : (Bool × List Int) × Bool × List Int) : go Tryz.prog ft tys envQg8 qrad_nt k 4000 (start 162 [.d (.st (.pair (.st (.pair .bool (.sl (.int .u32)))) (.st (.pair .bool (.sl (.int .u32)))))) a, .d (.st (.pair (.st (.pair .bool (.sl (.int .u32)))) (.st (.pair .bool (.sl (.int .u32)))))) b]) (.node 0) = qrad_t k a b := (go2_eq _ _ _ _ _ _ _ _ _).symm.trans (show go2 Tryz.prog ft tys envQg8 qrad_nt k 4000 (start 162 [.d (.st (.pair (.st (.pair .bool (.sl (.int .u32)))) (.st (.pair .bool (.sl (.int .u32)))))) a, .d (.st (.pair (.st (.pair .bool (.sl (.int .u32)))) (.st (.pair .bool (.sl (.int .u32)))))) b]) (.node 0) = qrad_t k a b by kernel_rfl)
theorem qrad_s (a : (Bool × List Int) × Bool × List Int) (b : (Bool × List Int) × Bool × List Int) {rX : List RV} (hX : ∃ nX, qrad_t (qrad_C.k nX) a b = some rX) : qrad_C.Res 162 [.d (.st (.pair (.st (.pair .bool (.sl (.int .u32)))) (.st (.pair .bool (.sl (.int .u32)))))) a, .d (.st (.pair (.st (.pair .bool (.sl (.int .u32)))) (.st (.pair .bool (.sl (.int .u32)))))) b] rX := by
  obtain ⟨nX, hX⟩ := hX
  exact ⟨nX, (qrad_eq _ a b).trans hX⟩
def qrmu_nt : NT := []
noncomputable def qrmu_C : Ctx := ⟨Tryz.prog, ft, tys, envQg8, qrmu_nt⟩
noncomputable def qrmu_t (_k : Nat → Cfg → Option (List RV)) (a : (Bool × List Int) × Bool × List Int) (b : (Bool × List Int) × Bool × List Int) : Option (List RV) := match decide (okI a.1 ∧ okI b.1) with | true => (match decide (okI a.2 ∧ okI b.2) with | true => (match decide (redP (encI (decI a.1 * decI b.1)) (encI (decI a.2 * decI b.2))) with | true => some [RV.d (.st (.pair (.st (.pair .bool (.sl (.int .u32)))) (.st (.pair .bool (.sl (.int .u32)))))) (((redR (encI (decI a.1 * decI b.1)) (encI (decI a.2 * decI b.2))).1), ((redR (encI (decI a.1 * decI b.1)) (encI (decI a.2 * decI b.2))).2))] | false => none) | false => none) | false => none
theorem qrmu_eq (k : Nat → Cfg → Option (List RV)) (a : (Bool × List Int) × Bool × List Int) (b : (Bool × List Int) × Bool × List Int) : go Tryz.prog ft tys envQg8 qrmu_nt k 4000 (start 43 [.d (.st (.pair (.st (.pair .bool (.sl (.int .u32)))) (.st (.pair .bool (.sl (.int .u32)))))) a, .d (.st (.pair (.st (.pair .bool (.sl (.int .u32)))) (.st (.pair .bool (.sl (.int .u32)))))) b]) (.node 0) = qrmu_t k a b := (go2_eq _ _ _ _ _ _ _ _ _).symm.trans (show go2 Tryz.prog ft tys envQg8 qrmu_nt k 4000 (start 43 [.d (.st (.pair (.st (.pair .bool (.sl (.int .u32)))) (.st (.pair .bool (.sl (.int .u32)))))) a, .d (.st (.pair (.st (.pair .bool (.sl (.int .u32)))) (.st (.pair .bool (.sl (.int .u32)))))) b]) (.node 0) = qrmu_t k a b by kernel_rfl)
theorem qrmu_s (a : (Bool × List Int) × Bool × List Int) (b : (Bool × List Int) × Bool × List Int) {rX : List RV} (hX : ∃ nX, qrmu_t (qrmu_C.k nX) a b = some rX) : qrmu_C.Res 43 [.d (.st (.pair (.st (.pair .bool (.sl (.int .u32)))) (.st (.pair .bool (.sl (.int .u32)))))) a, .d (.st (.pair (.st (.pair .bool (.sl (.int .u32)))) (.st (.pair .bool (.sl (.int .u32)))))) b] rX := by
  obtain ⟨nX, hX⟩ := hX
  exact ⟨nX, (qrmu_eq _ a b).trans hX⟩
def qrng_nt : NT := []
noncomputable def qrng_C : Ctx := ⟨Tryz.prog, ft, tys, envQg8, qrng_nt⟩
noncomputable def qrng_t (_k : Nat → Cfg → Option (List RV)) (a : (Bool × List Int) × Bool × List Int) : Option (List RV) := match decide (okI a.1) with | true => some [RV.d (.st (.pair (.st (.pair .bool (.sl (.int .u32)))) (.st (.pair .bool (.sl (.int .u32)))))) ((encI (-decI a.1)), a.2)] | false => none
theorem qrng_eq (k : Nat → Cfg → Option (List RV)) (a : (Bool × List Int) × Bool × List Int) : go Tryz.prog ft tys envQg8 qrng_nt k 4000 (start 164 [.d (.st (.pair (.st (.pair .bool (.sl (.int .u32)))) (.st (.pair .bool (.sl (.int .u32)))))) a]) (.node 0) = qrng_t k a := (go2_eq _ _ _ _ _ _ _ _ _).symm.trans (show go2 Tryz.prog ft tys envQg8 qrng_nt k 4000 (start 164 [.d (.st (.pair (.st (.pair .bool (.sl (.int .u32)))) (.st (.pair .bool (.sl (.int .u32)))))) a]) (.node 0) = qrng_t k a by kernel_rfl)
theorem qrng_s (a : (Bool × List Int) × Bool × List Int) {rX : List RV} (hX : ∃ nX, qrng_t (qrng_C.k nX) a = some rX) : qrng_C.Res 164 [.d (.st (.pair (.st (.pair .bool (.sl (.int .u32)))) (.st (.pair .bool (.sl (.int .u32)))))) a] rX := by
  obtain ⟨nX, hX⟩ := hX
  exact ⟨nX, (qrng_eq _ a).trans hX⟩
def qrmk_nt : NT := []
noncomputable def qrmk_C : Ctx := ⟨Tryz.prog, ft, tys, envQg8, qrmk_nt⟩
noncomputable def qrmk_t (_k : Nat → Cfg → Option (List RV)) (x : Bool × List Int) (y : Bool × List Int) : Option (List RV) := match decide (okI y) with | true => (match (cmpI (decI y) 0) == 0 with | true => some [RV.d (.st (.pair (.st (.pair .bool (.sl (.int .u32)))) (.st (.pair .bool (.sl (.int .u32)))))) ((false, []), (false, [])), RV.d (.int .i64) 6] | false => (match decide (redP x y) with | true => some [RV.d (.st (.pair (.st (.pair .bool (.sl (.int .u32)))) (.st (.pair .bool (.sl (.int .u32)))))) (((redR x y).1), ((redR x y).2)), RV.d (.int .i64) 0] | false => none)) | false => none
theorem qrmk_eq (k : Nat → Cfg → Option (List RV)) (x : Bool × List Int) (y : Bool × List Int) : go Tryz.prog ft tys envQg8 qrmk_nt k 4000 (start 163 [.d (.st (.pair .bool (.sl (.int .u32)))) x, .d (.st (.pair .bool (.sl (.int .u32)))) y]) (.node 0) = qrmk_t k x y := (go2_eq _ _ _ _ _ _ _ _ _).symm.trans (show go2 Tryz.prog ft tys envQg8 qrmk_nt k 4000 (start 163 [.d (.st (.pair .bool (.sl (.int .u32)))) x, .d (.st (.pair .bool (.sl (.int .u32)))) y]) (.node 0) = qrmk_t k x y by kernel_rfl)
theorem qrmk_s (x : Bool × List Int) (y : Bool × List Int) {rX : List RV} (hX : ∃ nX, qrmk_t (qrmk_C.k nX) x y = some rX) : qrmk_C.Res 163 [.d (.st (.pair .bool (.sl (.int .u32)))) x, .d (.st (.pair .bool (.sl (.int .u32)))) y] rX := by
  obtain ⟨nX, hX⟩ := hX
  exact ⟨nX, (qrmk_eq _ x y).trans hX⟩
theorem qrmk_con (x : Bool × List Int) (y : Bool × List Int) (h : redP x y) : Con Tryz.prog 163 [.d (.st (.pair .bool (.sl (.int .u32)))) x, .d (.st (.pair .bool (.sl (.int .u32)))) y] [.d (.st (.pair (.st (.pair .bool (.sl (.int .u32)))) (.st (.pair .bool (.sl (.int .u32)))))) (redR x y), .d (.int .i64) 0] := by
  refine Ctx.Res.con (C := qrmk_C) (ctx_ok envQg8_ok) (qrmk_s _ _ ⟨0, ?_⟩) (fn := Tryz.f163) (by kernel_rfl) (by kernel_rfl)
  obtain ⟨hx, hy, hne⟩ := h
  have hnz : (cmpI (decI y) 0 == 0) = false := by
    rcases Int.lt_or_lt_of_ne hne with h | h
    · rw [cmpI_lt h]; rfl
    · rw [cmpI_gt h]; rfl
  unfold qrmk_t
  rw [dT hy, hnz, dT (show redP x y from ⟨hx, hy, hne⟩)]
def qrmk_sp : Spec := { keep := false, run := fun _ args k => match args with
  | [.d (.st (.pair .bool (.sl (.int .u32)))) x, .d (.st (.pair .bool (.sl (.int .u32)))) y] => match decide (redP x y) with
    | true => k [RV.d (.st (.pair (.st (.pair .bool (.sl (.int .u32)))) (.st (.pair .bool (.sl (.int .u32)))))) (redR x y), RV.d (.int .i64) 0]
    | false => none
  | _ => none }
theorem qrmk_spec : callable Tryz.prog 163 = true ∧ SpecOk Tryz.prog 163 qrmk_sp ∧ ∀ g, qrmk_sp.mut_ = some g → MCon Tryz.prog 163 g := by
  refine ⟨by kernel_rfl, fun R args k r h => ?_, fun g h => by simp [qrmk_sp] at h⟩
  unfold qrmk_sp at h
  dsimp only at h
  split at h <;> try (cases h; done)
  split at h <;> try (cases h; done)
  rename_i hd
  exact ⟨_, h, qrmk_con _ _ (of_decide_eq_true hd)⟩

def envQg8b : Env := [(65, qfri_sp), (136, qiad_sp), (101, qing_sp), (100, qisg_sp), (61, qicm_sp), (62, qimu_sp), (103, qidm_sp), (102, qgcd_sp), (66, qunt_sp), (71, qof_sp), (163, qrmk_sp)]
theorem envQg8b_ok : EnvAll Tryz.prog envQg8b := ⟨qfri_spec, qiad_spec, qing_spec, qisg_spec, qicm_spec, qimu_spec, qidm_spec, qgcd_spec, qunt_spec, qof_spec, qrmk_spec, trivial⟩
def qrdi_nt : NT := []
noncomputable def qrdi_C : Ctx := ⟨Tryz.prog, ft, tys, envQg8b, qrdi_nt⟩
noncomputable def qrdi_t (_k : Nat → Cfg → Option (List RV)) (a : (Bool × List Int) × Bool × List Int) (b : (Bool × List Int) × Bool × List Int) : Option (List RV) := match decide (okI a.1 ∧ okI b.2) with | true => (match decide (okI a.2 ∧ okI b.1) with | true => (match decide (redP (encI (decI a.1 * decI b.2)) (encI (decI a.2 * decI b.1))) with | true => some [RV.d (.st (.pair (.st (.pair .bool (.sl (.int .u32)))) (.st (.pair .bool (.sl (.int .u32)))))) (((redR (encI (decI a.1 * decI b.2)) (encI (decI a.2 * decI b.1))).1), ((redR (encI (decI a.1 * decI b.2)) (encI (decI a.2 * decI b.1))).2)), RV.d (.int .i64) 0] | false => none) | false => none) | false => none
theorem qrdi_eq (k : Nat → Cfg → Option (List RV)) (a : (Bool × List Int) × Bool × List Int) (b : (Bool × List Int) × Bool × List Int) : go Tryz.prog ft tys envQg8b qrdi_nt k 4000 (start 149 [.d (.st (.pair (.st (.pair .bool (.sl (.int .u32)))) (.st (.pair .bool (.sl (.int .u32)))))) a, .d (.st (.pair (.st (.pair .bool (.sl (.int .u32)))) (.st (.pair .bool (.sl (.int .u32)))))) b]) (.node 0) = qrdi_t k a b := (go2_eq _ _ _ _ _ _ _ _ _).symm.trans (show go2 Tryz.prog ft tys envQg8b qrdi_nt k 4000 (start 149 [.d (.st (.pair (.st (.pair .bool (.sl (.int .u32)))) (.st (.pair .bool (.sl (.int .u32)))))) a, .d (.st (.pair (.st (.pair .bool (.sl (.int .u32)))) (.st (.pair .bool (.sl (.int .u32)))))) b]) (.node 0) = qrdi_t k a b by kernel_rfl)
theorem qrdi_s (a : (Bool × List Int) × Bool × List Int) (b : (Bool × List Int) × Bool × List Int) {rX : List RV} (hX : ∃ nX, qrdi_t (qrdi_C.k nX) a b = some rX) : qrdi_C.Res 149 [.d (.st (.pair (.st (.pair .bool (.sl (.int .u32)))) (.st (.pair .bool (.sl (.int .u32)))))) a, .d (.st (.pair (.st (.pair .bool (.sl (.int .u32)))) (.st (.pair .bool (.sl (.int .u32)))))) b] rX := by
  obtain ⟨nX, hX⟩ := hX
  exact ⟨nX, (qrdi_eq _ a b).trans hX⟩
theorem qrsg_con (a : (Bool × List Int) × Bool × List Int) (h : okR a) : Con Tryz.prog 125 [.d (.st (.pair (.st (.pair .bool (.sl (.int .u32)))) (.st (.pair .bool (.sl (.int .u32)))))) a] [.d (.int .i64) (cmpR (decR a) 0)] := by
  refine Ctx.Res.con (C := qrsg_C) (ctx_ok envQg8_ok) (qrsg_s _ ⟨0, ?_⟩) (fn := Tryz.f125) (by kernel_rfl) (by kernel_rfl)
  unfold qrsg_t
  rw [dT h.1, ← cmpR_zero, (okR_num h).1]
theorem qrfi_con (n : Int) (h : i64P n) : Con Tryz.prog 33 [.d (.int .i64) n] [.d (.st (.pair (.st (.pair .bool (.sl (.int .u32)))) (.st (.pair .bool (.sl (.int .u32)))))) (encR (n : Rat))] := by
  refine Ctx.Res.con (C := qrfi_C) (ctx_ok envQg8_ok) (qrfi_s _ ⟨0, ?_⟩) (fn := Tryz.f33) (by kernel_rfl) (by kernel_rfl)
  unfold qrfi_t encR
  rw [dT h, Rat.num_intCast, Rat.den_intCast]
  rfl
theorem qrcm_con (a : (Bool × List Int) × Bool × List Int) (b : (Bool × List Int) × Bool × List Int) (h : okR a ∧ okR b) : Con Tryz.prog 30 [.d (.st (.pair (.st (.pair .bool (.sl (.int .u32)))) (.st (.pair .bool (.sl (.int .u32)))))) a, .d (.st (.pair (.st (.pair .bool (.sl (.int .u32)))) (.st (.pair .bool (.sl (.int .u32)))))) b] [.d (.int .i64) (cmpR (decR a) (decR b))] := by
  refine Ctx.Res.con (C := qrcm_C) (ctx_ok envQg8_ok) (qrcm_s _ _ ⟨0, ?_⟩) (fn := Tryz.f30) (by kernel_rfl) (by kernel_rfl)
  obtain ⟨ha, hb⟩ := h
  obtain ⟨a1, a2⟩ := okR_num ha
  obtain ⟨b1, b2⟩ := okR_num hb
  obtain ⟨sa1, sa2⟩ := okR_sz ha
  obtain ⟨sb1, sb2⟩ := okR_sz hb
  have h1 := szI_mul sa1 sb2
  have h2 := szI_mul sb1 sa2
  unfold qrcm_t
  rw [dT (show okI a.1 ∧ okI b.2 from ⟨ha.1, hb.2.1⟩), dT (show okI b.1 ∧ okI a.2 from ⟨hb.1, ha.2.1⟩), dT (show okI (encI (decI a.1 * decI b.2)) ∧ okI (encI (decI b.1 * decI a.2)) from ⟨okI_enc (by omega), okI_enc (by omega)⟩), dec_enc, dec_enc, ← a1, ← a2, ← b1, ← b2, cmpR_num]
theorem qrng_con (a : (Bool × List Int) × Bool × List Int) (h : okR a) : Con Tryz.prog 164 [.d (.st (.pair (.st (.pair .bool (.sl (.int .u32)))) (.st (.pair .bool (.sl (.int .u32)))))) a] [.d (.st (.pair (.st (.pair .bool (.sl (.int .u32)))) (.st (.pair .bool (.sl (.int .u32)))))) (encR (-decR a))] := by
  refine Ctx.Res.con (C := qrng_C) (ctx_ok envQg8_ok) (qrng_s _ ⟨0, ?_⟩) (fn := Tryz.f164) (by kernel_rfl) (by kernel_rfl)
  obtain ⟨a1, a2⟩ := okR_num h
  unfold qrng_t
  have e : encR (-decR a) = (encI (-decI a.1), a.2) := by
    unfold encR
    rw [Rat.neg_num, a1, show ((-decR a).den : Int) = ((decR a).den : Int) from rfl, a2, ← okI_eq h.2.1]
  rw [dT h.1, e]
theorem qrad_con (a : (Bool × List Int) × Bool × List Int) (b : (Bool × List Int) × Bool × List Int) (h : okR a ∧ okR b) : Con Tryz.prog 162 [.d (.st (.pair (.st (.pair .bool (.sl (.int .u32)))) (.st (.pair .bool (.sl (.int .u32)))))) a, .d (.st (.pair (.st (.pair .bool (.sl (.int .u32)))) (.st (.pair .bool (.sl (.int .u32)))))) b] [.d (.st (.pair (.st (.pair .bool (.sl (.int .u32)))) (.st (.pair .bool (.sl (.int .u32)))))) (encR (decR a + decR b))] := by
  refine Ctx.Res.con (C := qrad_C) (ctx_ok envQg8_ok) (qrad_s _ _ ⟨0, ?_⟩) (fn := Tryz.f162) (by kernel_rfl) (by kernel_rfl)
  obtain ⟨ha, hb⟩ := h
  obtain ⟨a1, a2⟩ := okR_num ha
  obtain ⟨b1, b2⟩ := okR_num hb
  obtain ⟨sa1, sa2⟩ := okR_sz ha
  obtain ⟨sb1, sb2⟩ := okR_sz hb
  have pa := ha.2.2.1
  have pb := hb.2.2.1
  have h1 := szI_mul sa1 sb2
  have h2 := szI_mul sb1 sa2
  have h3 := szI_mul sa2 sb2
  have h4 := szI_add h1 h2
  have hda : decR a = Rat.divInt (decI a.1) (decI a.2) := by rw [← a1, ← a2, Rat.num_divInt_den]
  have hdb : decR b = Rat.divInt (decI b.1) (decI b.2) := by rw [← b1, ← b2, Rat.num_divInt_den]
  unfold qrad_t
  rw [dT (show okI a.1 ∧ okI b.2 from ⟨ha.1, hb.2.1⟩), dT (show okI b.1 ∧ okI a.2 from ⟨hb.1, ha.2.1⟩), dT (show okI (encI (decI a.1 * decI b.2)) ∧ okI (encI (decI b.1 * decI a.2)) from ⟨okI_enc (by omega), okI_enc (by omega)⟩), dT (show okI a.2 ∧ okI b.2 from ⟨ha.2.1, hb.2.1⟩)]
  simp only [dec_enc]
  rw [dT (show redP (encI (decI a.1 * decI b.2 + decI b.1 * decI a.2)) (encI (decI a.2 * decI b.2)) from ⟨okI_enc (by omega), okI_enc (by omega), by rw [dec_enc]; exact Int.mul_ne_zero (by omega) (by omega)⟩)]
  have e : redR (encI (decI a.1 * decI b.2 + decI b.1 * decI a.2)) (encI (decI a.2 * decI b.2)) = encR (decR a + decR b) := by
    unfold redR
    rw [dec_enc, dec_enc, hda, hdb, Rat.divInt_add_divInt _ _ (by omega) (by omega)]
  rw [e]
theorem qrmu_con (a : (Bool × List Int) × Bool × List Int) (b : (Bool × List Int) × Bool × List Int) (h : okR a ∧ okR b) : Con Tryz.prog 43 [.d (.st (.pair (.st (.pair .bool (.sl (.int .u32)))) (.st (.pair .bool (.sl (.int .u32)))))) a, .d (.st (.pair (.st (.pair .bool (.sl (.int .u32)))) (.st (.pair .bool (.sl (.int .u32)))))) b] [.d (.st (.pair (.st (.pair .bool (.sl (.int .u32)))) (.st (.pair .bool (.sl (.int .u32)))))) (encR (decR a * decR b))] := by
  refine Ctx.Res.con (C := qrmu_C) (ctx_ok envQg8_ok) (qrmu_s _ _ ⟨0, ?_⟩) (fn := Tryz.f43) (by kernel_rfl) (by kernel_rfl)
  obtain ⟨ha, hb⟩ := h
  obtain ⟨a1, a2⟩ := okR_num ha
  obtain ⟨b1, b2⟩ := okR_num hb
  obtain ⟨sa1, sa2⟩ := okR_sz ha
  obtain ⟨sb1, sb2⟩ := okR_sz hb
  have pa := ha.2.2.1
  have pb := hb.2.2.1
  have h1 := szI_mul sa1 sb1
  have h3 := szI_mul sa2 sb2
  have hda : decR a = Rat.divInt (decI a.1) (decI a.2) := by rw [← a1, ← a2, Rat.num_divInt_den]
  have hdb : decR b = Rat.divInt (decI b.1) (decI b.2) := by rw [← b1, ← b2, Rat.num_divInt_den]
  unfold qrmu_t
  rw [dT (show okI a.1 ∧ okI b.1 from ⟨ha.1, hb.1⟩), dT (show okI a.2 ∧ okI b.2 from ⟨ha.2.1, hb.2.1⟩), dT (show redP (encI (decI a.1 * decI b.1)) (encI (decI a.2 * decI b.2)) from ⟨okI_enc (by omega), okI_enc (by omega), by rw [dec_enc]; exact Int.mul_ne_zero (by omega) (by omega)⟩)]
  have e : redR (encI (decI a.1 * decI b.1)) (encI (decI a.2 * decI b.2)) = encR (decR a * decR b) := by
    unfold redR
    rw [dec_enc, dec_enc, hda, hdb, Rat.divInt_mul_divInt]
  rw [e]
theorem qrdi_con (a : (Bool × List Int) × Bool × List Int) (b : (Bool × List Int) × Bool × List Int) (h : rdiP a b) : Con Tryz.prog 149 [.d (.st (.pair (.st (.pair .bool (.sl (.int .u32)))) (.st (.pair .bool (.sl (.int .u32)))))) a, .d (.st (.pair (.st (.pair .bool (.sl (.int .u32)))) (.st (.pair .bool (.sl (.int .u32)))))) b] [.d (.st (.pair (.st (.pair .bool (.sl (.int .u32)))) (.st (.pair .bool (.sl (.int .u32)))))) (encR (decR a / decR b)), .d (.int .i64) 0] := by
  refine Ctx.Res.con (C := qrdi_C) (ctx_ok envQg8b_ok) (qrdi_s _ _ ⟨0, ?_⟩) (fn := Tryz.f149) (by kernel_rfl) (by kernel_rfl)
  obtain ⟨ha, hb, hne⟩ := h
  obtain ⟨a1, a2⟩ := okR_num ha
  obtain ⟨b1, b2⟩ := okR_num hb
  obtain ⟨sa1, sa2⟩ := okR_sz ha
  obtain ⟨sb1, sb2⟩ := okR_sz hb
  have pa := ha.2.2.1
  have h1 := szI_mul sa1 sb2
  have h3 := szI_mul sa2 sb1
  have hda : decR a = Rat.divInt (decI a.1) (decI a.2) := by rw [← a1, ← a2, Rat.num_divInt_den]
  have hdb : decR b = Rat.divInt (decI b.1) (decI b.2) := by rw [← b1, ← b2, Rat.num_divInt_den]
  have hmz : decI a.2 * decI b.1 ≠ 0 := Int.mul_ne_zero (by omega) hne
  unfold qrdi_t
  rw [dT (show okI a.1 ∧ okI b.2 from ⟨ha.1, hb.2.1⟩), dT (show okI a.2 ∧ okI b.1 from ⟨ha.2.1, hb.1⟩)]
  simp only
  rw [dT (show redP (encI (decI a.1 * decI b.2)) (encI (decI a.2 * decI b.1)) from ⟨okI_enc (by omega), okI_enc (by omega), by rw [dec_enc]; exact hmz⟩)]
  have e : redR (encI (decI a.1 * decI b.2)) (encI (decI a.2 * decI b.1)) = encR (decR a / decR b) := by
    unfold redR
    rw [dec_enc, dec_enc, hda, hdb, Rat.div_def, Rat.inv_divInt, Rat.divInt_mul_divInt]
  rw [e]
def qrad_sp : Spec := { keep := false, run := fun _ args k => match args with
  | [.d (.st (.pair (.st (.pair .bool (.sl (.int .u32)))) (.st (.pair .bool (.sl (.int .u32)))))) a, .d (.st (.pair (.st (.pair .bool (.sl (.int .u32)))) (.st (.pair .bool (.sl (.int .u32)))))) b] => match decide (okR a ∧ okR b) with
    | true => k [RV.d (.st (.pair (.st (.pair .bool (.sl (.int .u32)))) (.st (.pair .bool (.sl (.int .u32)))))) (encR (decR a + decR b))]
    | false => none
  | _ => none }
theorem qrad_spec : callable Tryz.prog 162 = true ∧ SpecOk Tryz.prog 162 qrad_sp ∧ ∀ g, qrad_sp.mut_ = some g → MCon Tryz.prog 162 g := by
  refine ⟨by kernel_rfl, fun R args k r h => ?_, fun g h => by simp [qrad_sp] at h⟩
  unfold qrad_sp at h
  dsimp only at h
  split at h <;> try (cases h; done)
  split at h <;> try (cases h; done)
  rename_i hd
  exact ⟨_, h, qrad_con _ _ (of_decide_eq_true hd)⟩

def qrng_sp : Spec := { keep := false, run := fun _ args k => match args with
  | [.d (.st (.pair (.st (.pair .bool (.sl (.int .u32)))) (.st (.pair .bool (.sl (.int .u32)))))) a] => match decide (okR a) with
    | true => k [RV.d (.st (.pair (.st (.pair .bool (.sl (.int .u32)))) (.st (.pair .bool (.sl (.int .u32)))))) (encR (-decR a))]
    | false => none
  | _ => none }
theorem qrng_spec : callable Tryz.prog 164 = true ∧ SpecOk Tryz.prog 164 qrng_sp ∧ ∀ g, qrng_sp.mut_ = some g → MCon Tryz.prog 164 g := by
  refine ⟨by kernel_rfl, fun R args k r h => ?_, fun g h => by simp [qrng_sp] at h⟩
  unfold qrng_sp at h
  dsimp only at h
  split at h <;> try (cases h; done)
  split at h <;> try (cases h; done)
  rename_i hd
  exact ⟨_, h, qrng_con _ (of_decide_eq_true hd)⟩

def qrdi_sp : Spec := { keep := false, run := fun _ args k => match args with
  | [.d (.st (.pair (.st (.pair .bool (.sl (.int .u32)))) (.st (.pair .bool (.sl (.int .u32)))))) a, .d (.st (.pair (.st (.pair .bool (.sl (.int .u32)))) (.st (.pair .bool (.sl (.int .u32)))))) b] => match decide (rdiP a b) with
    | true => k [RV.d (.st (.pair (.st (.pair .bool (.sl (.int .u32)))) (.st (.pair .bool (.sl (.int .u32)))))) (encR (decR a / decR b)), RV.d (.int .i64) 0]
    | false => none
  | _ => none }
theorem qrdi_spec : callable Tryz.prog 149 = true ∧ SpecOk Tryz.prog 149 qrdi_sp ∧ ∀ g, qrdi_sp.mut_ = some g → MCon Tryz.prog 149 g := by
  refine ⟨by kernel_rfl, fun R args k r h => ?_, fun g h => by simp [qrdi_sp] at h⟩
  unfold qrdi_sp at h
  dsimp only at h
  split at h <;> try (cases h; done)
  split at h <;> try (cases h; done)
  rename_i hd
  exact ⟨_, h, qrdi_con _ _ (of_decide_eq_true hd)⟩

def envQg9 : Env := [(65, qfri_sp), (136, qiad_sp), (101, qing_sp), (100, qisg_sp), (61, qicm_sp), (62, qimu_sp), (103, qidm_sp), (102, qgcd_sp), (66, qunt_sp), (71, qof_sp), (163, qrmk_sp), (162, qrad_sp), (164, qrng_sp), (149, qrdi_sp)]
theorem envQg9_ok : EnvAll Tryz.prog envQg9 := ⟨qfri_spec, qiad_spec, qing_spec, qisg_spec, qicm_spec, qimu_spec, qidm_spec, qgcd_spec, qunt_spec, qof_spec, qrmk_spec, qrad_spec, qrng_spec, qrdi_spec, trivial⟩
def qrsu_nt : NT := []
noncomputable def qrsu_C : Ctx := ⟨Tryz.prog, ft, tys, envQg9, qrsu_nt⟩
noncomputable def qrsu_t (_k : Nat → Cfg → Option (List RV)) (a : (Bool × List Int) × Bool × List Int) (b : (Bool × List Int) × Bool × List Int) : Option (List RV) := match decide (okR b) with | true => (match decide (okR a ∧ okR (encR (-decR b))) with | true => some [RV.d (.st (.pair (.st (.pair .bool (.sl (.int .u32)))) (.st (.pair .bool (.sl (.int .u32)))))) (((encR (decR a + decR (encR (-decR b)))).1), ((encR (decR a + decR (encR (-decR b)))).2))] | false => none) | false => none
theorem qrsu_eq (k : Nat → Cfg → Option (List RV)) (a : (Bool × List Int) × Bool × List Int) (b : (Bool × List Int) × Bool × List Int) : go Tryz.prog ft tys envQg9 qrsu_nt k 4000 (start 161 [.d (.st (.pair (.st (.pair .bool (.sl (.int .u32)))) (.st (.pair .bool (.sl (.int .u32)))))) a, .d (.st (.pair (.st (.pair .bool (.sl (.int .u32)))) (.st (.pair .bool (.sl (.int .u32)))))) b]) (.node 0) = qrsu_t k a b := (go2_eq _ _ _ _ _ _ _ _ _).symm.trans (show go2 Tryz.prog ft tys envQg9 qrsu_nt k 4000 (start 161 [.d (.st (.pair (.st (.pair .bool (.sl (.int .u32)))) (.st (.pair .bool (.sl (.int .u32)))))) a, .d (.st (.pair (.st (.pair .bool (.sl (.int .u32)))) (.st (.pair .bool (.sl (.int .u32)))))) b]) (.node 0) = qrsu_t k a b by kernel_rfl)
theorem qrsu_s (a : (Bool × List Int) × Bool × List Int) (b : (Bool × List Int) × Bool × List Int) {rX : List RV} (hX : ∃ nX, qrsu_t (qrsu_C.k nX) a b = some rX) : qrsu_C.Res 161 [.d (.st (.pair (.st (.pair .bool (.sl (.int .u32)))) (.st (.pair .bool (.sl (.int .u32)))))) a, .d (.st (.pair (.st (.pair .bool (.sl (.int .u32)))) (.st (.pair .bool (.sl (.int .u32)))))) b] rX := by
  obtain ⟨nX, hX⟩ := hX
  exact ⟨nX, (qrsu_eq _ a b).trans hX⟩
def qrov_nt : NT := []
noncomputable def qrov_C : Ctx := ⟨Tryz.prog, ft, tys, envQg9, qrov_nt⟩
noncomputable def qrov_t (_k : Nat → Cfg → Option (List RV)) (a : (Bool × List Int) × Bool × List Int) (b : (Bool × List Int) × Bool × List Int) : Option (List RV) := match decide (rdiP a b) with | true => some [RV.d (.st (.pair (.st (.pair .bool (.sl (.int .u32)))) (.st (.pair .bool (.sl (.int .u32)))))) (((encR (decR a / decR b)).1), ((encR (decR a / decR b)).2))] | false => none
theorem qrov_eq (k : Nat → Cfg → Option (List RV)) (a : (Bool × List Int) × Bool × List Int) (b : (Bool × List Int) × Bool × List Int) : go Tryz.prog ft tys envQg9 qrov_nt k 4000 (start 129 [.d (.st (.pair (.st (.pair .bool (.sl (.int .u32)))) (.st (.pair .bool (.sl (.int .u32)))))) a, .d (.st (.pair (.st (.pair .bool (.sl (.int .u32)))) (.st (.pair .bool (.sl (.int .u32)))))) b]) (.node 0) = qrov_t k a b := (go2_eq _ _ _ _ _ _ _ _ _).symm.trans (show go2 Tryz.prog ft tys envQg9 qrov_nt k 4000 (start 129 [.d (.st (.pair (.st (.pair .bool (.sl (.int .u32)))) (.st (.pair .bool (.sl (.int .u32)))))) a, .d (.st (.pair (.st (.pair .bool (.sl (.int .u32)))) (.st (.pair .bool (.sl (.int .u32)))))) b]) (.node 0) = qrov_t k a b by kernel_rfl)
theorem qrov_s (a : (Bool × List Int) × Bool × List Int) (b : (Bool × List Int) × Bool × List Int) {rX : List RV} (hX : ∃ nX, qrov_t (qrov_C.k nX) a b = some rX) : qrov_C.Res 129 [.d (.st (.pair (.st (.pair .bool (.sl (.int .u32)))) (.st (.pair .bool (.sl (.int .u32)))))) a, .d (.st (.pair (.st (.pair .bool (.sl (.int .u32)))) (.st (.pair .bool (.sl (.int .u32)))))) b] rX := by
  obtain ⟨nX, hX⟩ := hX
  exact ⟨nX, (qrov_eq _ a b).trans hX⟩
theorem qrsu_con (a : (Bool × List Int) × Bool × List Int) (b : (Bool × List Int) × Bool × List Int) (h : okR a ∧ okR b) : Con Tryz.prog 161 [.d (.st (.pair (.st (.pair .bool (.sl (.int .u32)))) (.st (.pair .bool (.sl (.int .u32)))))) a, .d (.st (.pair (.st (.pair .bool (.sl (.int .u32)))) (.st (.pair .bool (.sl (.int .u32)))))) b] [.d (.st (.pair (.st (.pair .bool (.sl (.int .u32)))) (.st (.pair .bool (.sl (.int .u32)))))) (encR (decR a - decR b))] := by
  refine Ctx.Res.con (C := qrsu_C) (ctx_ok envQg9_ok) (qrsu_s _ _ ⟨0, ?_⟩) (fn := Tryz.f161) (by kernel_rfl) (by kernel_rfl)
  obtain ⟨ha, hb⟩ := h
  unfold qrsu_t
  rw [dT hb, dec_encR, Rat.sub_eq_add_neg, dT (show okR a ∧ okR (encR (-decR b)) from ⟨ha, okR_enc (bdR_neg (okR_bd hb)) (Nat.le_refl _)⟩)]
theorem qrov_con (a : (Bool × List Int) × Bool × List Int) (b : (Bool × List Int) × Bool × List Int) (h : rdiP a b) : Con Tryz.prog 129 [.d (.st (.pair (.st (.pair .bool (.sl (.int .u32)))) (.st (.pair .bool (.sl (.int .u32)))))) a, .d (.st (.pair (.st (.pair .bool (.sl (.int .u32)))) (.st (.pair .bool (.sl (.int .u32)))))) b] [.d (.st (.pair (.st (.pair .bool (.sl (.int .u32)))) (.st (.pair .bool (.sl (.int .u32)))))) (encR (decR a / decR b))] := by
  refine Ctx.Res.con (C := qrov_C) (ctx_ok envQg9_ok) (qrov_s _ _ ⟨0, ?_⟩) (fn := Tryz.f129) (by kernel_rfl) (by kernel_rfl)
  unfold qrov_t
  rw [dT h]
end Go.Proofs.YtcaiedfkohigjaaGreat

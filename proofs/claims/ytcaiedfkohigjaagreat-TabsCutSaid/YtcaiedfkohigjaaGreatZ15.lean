/- tabs: far, vec, On; the reference's Inside, square, On. -/
import Derived.Test.YtcaiedfkohigjaaGreatZ14
import Derived.Test.YtcaiedfkohigjaaGreatZ7
import Derived.Stop.Joined
namespace Go.Proofs.YtcaiedfkohigjaaGreat
open Go.RowKit
def farI (n : Int) : Bool := decide (n > 10000000) || decide (n < -10000000)
def farL (l : List Int) : Bool := l.any farI
def gridP (a : Int × Int) : Prop := i64P a.1 ∧ i64P a.2
instance (a : Int × Int) : Decidable (gridP a) := by unfold gridP; infer_instance
def vecR (a : Int × Int) : Rat × Rat := ((a.1 : Rat), (a.2 : Rat))
def insB (a : Int × Int) : Bool := !(farI a.1) && !(farI a.2)
def onB (a b x : Int × Int) : Bool := !(farL [a.1, a.2, b.1, b.2, x.1, x.2]) && decide (segR (vecR a) (vecR b) (vecR x) (vecR x) ≤ ((1 : Int) : Rat))
theorem farI_false {n : Int} (h : farI n = false) : -10000000 ≤ n ∧ n ≤ 10000000 := by
  unfold farI at h
  simp only [Bool.or_eq_false_iff, decide_eq_false_iff_not] at h
  omega
theorem farI_i64 {n : Int} (h : farI n = false) : i64P n := by
  have := farI_false h
  exact ⟨by omega, by omega⟩
theorem bd_vec {a : Int × Int} (h : gridP a) : Bd (vecR a) 6 := by
  have h1 := bd_int64 h.1
  have h2 := bd_int64 h.2
  exact (inferInstance : Bd ((a.1 : Rat), (a.2 : Rat)) (3 + 3))
instance bd_int1 : Bd ((1 : Int) : Rat) 1 := ⟨⟨by decide +kernel, by decide +kernel⟩⟩
instance bd_seg {a b c d : Rat × Rat} {j k l m : Nat} [ha : Bd a j] [hb : Bd b k] [hc : Bd c l] [hd : Bd d m] : Bd (segR a b c d) (100 * (j + k + l + m + 1)) := by
  have h1 : ∀ {q : Rat} {n : Nat}, Bd q n → n ≤ 100 * (j + k + l + m + 1) → bdR (100 * (j + k + l + m + 1)) q := fun h hm => bdR_mono h.le hm
  refine ⟨?_⟩
  show bdR _ _
  unfold segR
  cases cgR a b c d
  · exact bd_min (bd_min (bd_min (h1 (inferInstance : Bd (tosR a b c) _) (by omega)) (h1 (inferInstance : Bd (tosR a b d) _) (by omega))) (h1 (inferInstance : Bd (tosR c d a) _) (by omega))) (h1 (inferInstance : Bd (tosR c d b) _) (by omega))
  · exact h1 bd_zero (by omega)
theorem okd_grid {a : Int × Int} (h : gridP a) : decide (gridP a) = true := decide_eq_true h
noncomputable def dsg_tp : Spec := { keep := false, tame := true, run := fun _ args k => match args with
  | [.d (.st (.pair (.st (.pair (.st (.pair .bool (.sl (.int .u32)))) (.st (.pair .bool (.sl (.int .u32)))))) (.st (.pair (.st (.pair .bool (.sl (.int .u32)))) (.st (.pair .bool (.sl (.int .u32)))))))) a, .d (.st (.pair (.st (.pair (.st (.pair .bool (.sl (.int .u32)))) (.st (.pair .bool (.sl (.int .u32)))))) (.st (.pair (.st (.pair .bool (.sl (.int .u32)))) (.st (.pair .bool (.sl (.int .u32)))))))) b, .d (.st (.pair (.st (.pair (.st (.pair .bool (.sl (.int .u32)))) (.st (.pair .bool (.sl (.int .u32)))))) (.st (.pair (.st (.pair .bool (.sl (.int .u32)))) (.st (.pair .bool (.sl (.int .u32)))))))) c, .d (.st (.pair (.st (.pair (.st (.pair .bool (.sl (.int .u32)))) (.st (.pair .bool (.sl (.int .u32)))))) (.st (.pair (.st (.pair .bool (.sl (.int .u32)))) (.st (.pair .bool (.sl (.int .u32)))))))) d] => match decide (ok (Rat × Rat) 100 a ∧ ok (Rat × Rat) 100 b ∧ ok (Rat × Rat) 100 c ∧ ok (Rat × Rat) 100 d) with
    | true => k [RV.d tR (hid (encR (segR (dec a) (dec b) (dec c) (dec d))))]
    | false => none
  | _ => none }
theorem dsg_tpec : callable Tryz.prog 26 = true ∧ SpecOk Tryz.prog 26 dsg_tp ∧ ∀ g, dsg_tp.mut_ = some g → MCon Tryz.prog 26 g := by
  refine ⟨by kernel_rfl, fun R args k r h => ?_, fun g h => by cases h⟩
  unfold dsg_tp at h
  dsimp only at h
  split at h <;> try (cases h; done)
  split at h <;> try (cases h; done)
  rename_i hd
  simp only [hid_eq] at h
  exact ⟨_, h, dsg_con _ _ _ _ (of_decide_eq_true hd)⟩

noncomputable def envTb0 : Env := [(28, rfi_tp), (25, rcm_tp), (26, dsg_tp)]
theorem envTb0_ok : EnvAll Tryz.prog envTb0 := ⟨rfi_tpec, rcm_tpec, dsg_tpec, trivial⟩
def tfar_nt : NT := [((77, 6), { keep := [0, 1, 7, 8], hl := 0 }), ((24, 3), { keep := [4], hl := 0 }), ((51, 3), { keep := [7], hl := 0 }), ((77, 18), { keep := [0, 1, 5, 7, 8, 16], hl := 0 })]
noncomputable def tfar_C : Ctx := ⟨Tryz.prog, ft, tys, envTb0, tfar_nt⟩
def tfar_h77_6 (l : List Int) (s77_8 : Int) : Cfg := ⟨77, [.blk 0, .seq 25], [(0, .d (.sl (.int .i64)) l), (1, .clo 52 []), (7, SI (l.length : Int)), (8, SI s77_8)], [], 0, [⟨51, [.seq 4], 3, 2, [], 0, none⟩, ⟨24, [.seq 4], 3, 1, [], 0, none⟩]⟩
noncomputable def tfar_t (k : Nat → Cfg → Option (List RV)) (l : List Int) : Option (List RV) := k 6 (tfar_h77_6 l 0)
theorem tfar_eq (k : Nat → Cfg → Option (List RV)) (l : List Int) : go Tryz.prog ft tys envTb0 tfar_nt k 4000 (start 24 [.d (.sl (.int .i64)) l]) (.node 0) = tfar_t k l := (go2_eq _ _ _ _ _ _ _ _ _).symm.trans (show go2 Tryz.prog ft tys envTb0 tfar_nt k 4000 (start 24 [.d (.sl (.int .i64)) l]) (.node 0) = tfar_t k l by kernel_rfl)
theorem tfar_s (l : List Int) {rX : List RV} (hX : ∃ nX, tfar_t (tfar_C.k nX) l = some rX) : tfar_C.Res 24 [.d (.sl (.int .i64)) l] rX := by
  obtain ⟨nX, hX⟩ := hX
  exact ⟨nX, (tfar_eq _ l).trans hX⟩
noncomputable def tfar_h77_6_t (k : Nat → Cfg → Option (List RV)) (l : List Int) (s77_8 : Int) : Option (List RV) := match decide (s77_8 < (l.length : Int)) with | true => (match getI l s77_8 with | some x1 => (match decide (x1 > 10000000) with | true => some [RV.d .bool (decide (s77_8 ≥ 0))] | false => (match decide (x1 < (-10000000)) with | true => some [RV.d .bool (decide (s77_8 ≥ 0))] | false => k 6 (tfar_h77_6 l (IntKind.i64.wrap (s77_8 + 1))))) | none => none) | false => some [RV.d .bool (decide ((-1) ≥ 0))]
theorem tfar_h77_6_eq (k : Nat → Cfg → Option (List RV)) (l : List Int) (s77_8 : Int) : go Tryz.prog ft tys envTb0 tfar_nt k 4000 { tfar_h77_6 l s77_8 with K := .lp 6 :: (tfar_h77_6 l s77_8).K } (.node 7) = tfar_h77_6_t k l s77_8 := (go2_eq _ _ _ _ _ _ _ _ _).symm.trans (show go2 Tryz.prog ft tys envTb0 tfar_nt k 4000 { tfar_h77_6 l s77_8 with K := .lp 6 :: (tfar_h77_6 l s77_8).K } (.node 7) = tfar_h77_6_t k l s77_8 by kernel_rfl)
theorem tfar_h77_6_s (l : List Int) (s77_8 : Int) {rX : List RV} (hX : ∃ nX, tfar_h77_6_t (tfar_C.k nX) l s77_8 = some rX) : tfar_C.Runs 6 (tfar_h77_6 l s77_8) rX := by
  obtain ⟨nX, hX⟩ := hX
  exact ⟨nX + 1, (tfar_h77_6_eq _ l s77_8).trans hX⟩
def tvec_nt : NT := []
noncomputable def tvec_C : Ctx := ⟨Tryz.prog, ft, tys, envTb0, tvec_nt⟩
noncomputable def tvec_t (_k : Nat → Cfg → Option (List RV)) (a : (Int × Int)) : Option (List RV) := match decide (i64P a.1) with | true => (match decide (i64P a.2) with | true => some [RV.d tV (hid (encR (a.1 : Rat)), hid (encR (a.2 : Rat)))] | false => none) | false => none
theorem tvec_eq (k : Nat → Cfg → Option (List RV)) (a : (Int × Int)) : go Tryz.prog ft tys envTb0 tvec_nt k 4000 (start 27 [.d tG a]) (.node 0) = tvec_t k a := (go2_eq _ _ _ _ _ _ _ _ _).symm.trans (show go2 Tryz.prog ft tys envTb0 tvec_nt k 4000 (start 27 [.d tG a]) (.node 0) = tvec_t k a by kernel_rfl)
theorem tvec_s (a : (Int × Int)) {rX : List RV} (hX : ∃ nX, tvec_t (tvec_C.k nX) a = some rX) : tvec_C.Res 27 [.d tG a] rX := by
  obtain ⟨nX, hX⟩ := hX
  exact ⟨nX, (tvec_eq _ a).trans hX⟩
theorem tfar_loop (l : List Int) (hl : l.length ≤ 1000000000) : ∀ (j i : Nat), i + j = l.length → tfar_C.Runs 6 (tfar_h77_6 l (i : Int)) [.d .bool (farL (l.drop i))] := by
  intro j
  induction j with
  | zero =>
    intro i hi
    refine tfar_h77_6_s _ _ ⟨0, ?_⟩
    unfold tfar_h77_6_t
    rw [ge_dec (by omega), drop_end (by omega)]
    rfl
  | succ j ih =>
    intro i hi
    have hil : i < l.length := by omega
    obtain ⟨q, hq⟩ := ih (i + 1) (by omega)
    refine tfar_h77_6_s _ _ ⟨q, ?_⟩
    unfold tfar_h77_6_t
    rw [lt_dec hil, getI_nat, List.getElem?_eq_getElem hil, drop_get hil, wrapS (by omega)]
    dsimp only
    have e : farL (l[i] :: l.drop (i + 1)) = (farI l[i] || farL (l.drop (i + 1))) := rfl
    rw [e]
    unfold farI
    rw [show decide ((i : Int) ≥ 0) = true from decide_eq_true (by omega)]
    cases decide (l[i] > 10000000)
    · cases decide (l[i] < -10000000)
      · exact hq
      · rfl
    · rfl
def farP (l : List Int) : Prop := l.length ≤ 1000000000
instance (l : List Int) : Decidable (farP l) := by unfold farP; infer_instance
theorem tfar_con (l : List Int) (h : farP l) : Con Tryz.prog 24 [.d (.sl (.int .i64)) l] [.d .bool (farL l)] := by
  refine Ctx.Res.con (C := tfar_C) (ctx_ok envTb0_ok) ?_ (fn := Tryz.f24) (by kernel_rfl) (by kernel_rfl)
  obtain ⟨q, hq⟩ := tfar_loop l h l.length 0 (by omega)
  exact tfar_s _ ⟨q, hq⟩
theorem tvec_con (a : (Int × Int)) (h : gridP a) : Con Tryz.prog 27 [.d tG a] [.d tV (enc (vecR a))] := by
  refine Ctx.Res.con (C := tvec_C) (ctx_ok envTb0_ok) (tvec_s _ ⟨0, ?_⟩) (fn := Tryz.f27) (by kernel_rfl) (by kernel_rfl)
  have h1 := bd_int64 h.1
  have h2 := bd_int64 h.2
  unfold tvec_t
  rw [dT h.1, dT h.2]
  simp only [hid_eq]
  rfl
def tfar_sp : Spec := { keep := true, run := fun _ args k => match args with
  | [.d (.sl (.int .i64)) l] => match decide (farP l) with
    | true => k [RV.d .bool (farL l)]
    | false => none
  | _ => none }
theorem tfar_spec : callable Tryz.prog 24 = true ∧ SpecOk Tryz.prog 24 tfar_sp ∧ ∀ g, tfar_sp.mut_ = some g → MCon Tryz.prog 24 g := by
  refine ⟨by kernel_rfl, fun R args k r h => ?_, fun g h => by simp [tfar_sp] at h⟩
  unfold tfar_sp at h
  dsimp only at h
  split at h <;> try (cases h; done)
  split at h <;> try (cases h; done)
  rename_i hd
  exact ⟨_, h, tfar_con _ (of_decide_eq_true hd)⟩

noncomputable def tvec_tp : Spec := { keep := false, tame := true, run := fun _ args k => match args with
  | [.d (.st (.pair (.int .i64) (.int .i64))) a] => match decide (gridP a) with
    | true => k [RV.d tV (hid (enc (vecR a)))]
    | false => none
  | _ => none }
theorem tvec_tpec : callable Tryz.prog 27 = true ∧ SpecOk Tryz.prog 27 tvec_tp ∧ ∀ g, tvec_tp.mut_ = some g → MCon Tryz.prog 27 g := by
  refine ⟨by kernel_rfl, fun R args k r h => ?_, fun g h => by cases h⟩
  unfold tvec_tp at h
  dsimp only at h
  split at h <;> try (cases h; done)
  split at h <;> try (cases h; done)
  rename_i hd
  simp only [hid_eq] at h
  exact ⟨_, h, tvec_con _ (of_decide_eq_true hd)⟩

noncomputable def envTb1 : Env := [(28, rfi_tp), (25, rcm_tp), (26, dsg_tp), (24, tfar_sp), (27, tvec_tp)]
theorem envTb1_ok : EnvAll Tryz.prog envTb1 := ⟨rfi_tpec, rcm_tpec, dsg_tpec, tfar_spec, tvec_tpec, trivial⟩
def ton_nt : NT := []
noncomputable def ton_C : Ctx := ⟨Tryz.prog, ft, tys, envTb1, ton_nt⟩
noncomputable def ton_t (_k : Nat → Cfg → Option (List RV)) (a : (Int × Int)) (b : (Int × Int)) (x : (Int × Int)) : Option (List RV) := match decide (farP ([a.1, a.2, b.1, b.2, x.1, x.2])) with | true => (match farL ([a.1, a.2, b.1, b.2, x.1, x.2]) with | true => some [RV.d .bool false] | false => (match decide (gridP a) with | true => (match decide (gridP b) with | true => (match decide (gridP x) with | true => (match decide (gridP x) with | true => (match decide (ok (Rat × Rat) 100 (hid (enc (vecR a))) ∧ ok (Rat × Rat) 100 (hid (enc (vecR b))) ∧ ok (Rat × Rat) 100 (hid (enc (vecR x))) ∧ ok (Rat × Rat) 100 (hid (enc (vecR x)))) with | true => (match decide (i64P (1 : Int)) with | true => (match decide (okR (hid (encR (segR (dec (hid (enc (vecR a)))) (dec (hid (enc (vecR b)))) (dec (hid (enc (vecR x)))) (dec (hid (enc (vecR x))))))) ∧ okR (hid (encR ((1 : Int) : Rat)))) with | true => some [RV.d .bool (decide ((cmpR (decR (hid (encR (segR (dec (hid (enc (vecR a)))) (dec (hid (enc (vecR b)))) (dec (hid (enc (vecR x)))) (dec (hid (enc (vecR x)))))))) (decR (hid (encR ((1 : Int) : Rat))))) ≤ 0))] | false => none) | false => none) | false => none) | false => none) | false => none) | false => none) | false => none)) | false => none
theorem ton_eq (k : Nat → Cfg → Option (List RV)) (a : (Int × Int)) (b : (Int × Int)) (x : (Int × Int)) : go Tryz.prog ft tys envTb1 ton_nt k 4000 (start 8 [.d tG a, .d tG b, .d tG x]) (.node 0) = ton_t k a b x := (go2_eq _ _ _ _ _ _ _ _ _).symm.trans (show go2 Tryz.prog ft tys envTb1 ton_nt k 4000 (start 8 [.d tG a, .d tG b, .d tG x]) (.node 0) = ton_t k a b x by kernel_rfl)
theorem ton_s (a : (Int × Int)) (b : (Int × Int)) (x : (Int × Int)) {rX : List RV} (hX : ∃ nX, ton_t (ton_C.k nX) a b x = some rX) : ton_C.Res 8 [.d tG a, .d tG b, .d tG x] rX := by
  obtain ⟨nX, hX⟩ := hX
  exact ⟨nX, (ton_eq _ a b x).trans hX⟩
theorem ton_con (a : (Int × Int)) (b : (Int × Int)) (x : (Int × Int)) : Con Tryz.prog 8 [.d tG a, .d tG b, .d tG x] [.d .bool (onB a b x)] := by
  refine Ctx.Res.con (C := ton_C) (ctx_ok envTb1_ok) (ton_s _ _ _ ⟨0, ?_⟩) (fn := Tryz.f8) (by kernel_rfl) (by kernel_rfl)
  unfold ton_t onB
  rw [dT (show farP [a.1, a.2, b.1, b.2, x.1, x.2] by show 6 ≤ 1000000000; decide)]
  dsimp only
  cases hf : farL [a.1, a.2, b.1, b.2, x.1, x.2]
  · simp only [farL, List.any_cons, List.any_nil, Bool.or_false, Bool.or_eq_false_iff] at hf
    obtain ⟨h1, h2, h3, h4, h5, h6⟩ := hf
    have ga : gridP a := ⟨farI_i64 h1, farI_i64 h2⟩
    have gb : gridP b := ⟨farI_i64 h3, farI_i64 h4⟩
    have gx : gridP x := ⟨farI_i64 h5, farI_i64 h6⟩
    have ba := bd_vec ga
    have bb := bd_vec gb
    have bx := bd_vec gx
    have h1' : i64P 1 := by decide
    simp only [okd_grid ga, okd_grid gb, okd_grid gx, dT h1', hid_eq, dec_enc', dec_encR, okd, okd_R, Bool.decide_and, Bool.and_self, Nat.reduceAdd, Nat.reduceMul, Nat.reduceLeDiff, cmpR_leb]
    rfl
  · rfl
noncomputable def esg_tp : Spec := { keep := false, tame := true, run := fun _ args k => match args with
  | [.d (.st (.pair (.st (.pair (.st (.pair .bool (.sl (.int .u32)))) (.st (.pair .bool (.sl (.int .u32)))))) (.st (.pair (.st (.pair .bool (.sl (.int .u32)))) (.st (.pair .bool (.sl (.int .u32)))))))) a, .d (.st (.pair (.st (.pair (.st (.pair .bool (.sl (.int .u32)))) (.st (.pair .bool (.sl (.int .u32)))))) (.st (.pair (.st (.pair .bool (.sl (.int .u32)))) (.st (.pair .bool (.sl (.int .u32)))))))) b, .d (.st (.pair (.st (.pair (.st (.pair .bool (.sl (.int .u32)))) (.st (.pair .bool (.sl (.int .u32)))))) (.st (.pair (.st (.pair .bool (.sl (.int .u32)))) (.st (.pair .bool (.sl (.int .u32)))))))) c, .d (.st (.pair (.st (.pair (.st (.pair .bool (.sl (.int .u32)))) (.st (.pair .bool (.sl (.int .u32)))))) (.st (.pair (.st (.pair .bool (.sl (.int .u32)))) (.st (.pair .bool (.sl (.int .u32)))))))) d] => match decide (ok (Rat × Rat) 100 a ∧ ok (Rat × Rat) 100 b ∧ ok (Rat × Rat) 100 c ∧ ok (Rat × Rat) 100 d) with
    | true => k [RV.d tR (hid (encR (segR (dec a) (dec b) (dec c) (dec d))))]
    | false => none
  | _ => none }
theorem esg_tpec : callable Tryz.prog 63 = true ∧ SpecOk Tryz.prog 63 esg_tp ∧ ∀ g, esg_tp.mut_ = some g → MCon Tryz.prog 63 g := by
  refine ⟨by kernel_rfl, fun R args k r h => ?_, fun g h => by cases h⟩
  unfold esg_tp at h
  dsimp only at h
  split at h <;> try (cases h; done)
  split at h <;> try (cases h; done)
  rename_i hd
  simp only [hid_eq] at h
  exact ⟨_, h, esg_con _ _ _ _ (of_decide_eq_true hd)⟩

noncomputable def envTb2 : Env := [(33, qrfi_tp), (30, qrcm_tp), (63, esg_tp)]
theorem envTb2_ok : EnvAll Tryz.prog envTb2 := ⟨qrfi_tpec, qrcm_tpec, esg_tpec, trivial⟩
def uin_nt : NT := []
noncomputable def uin_C : Ctx := ⟨Tryz.prog, ft, tys, envTb2, uin_nt⟩
noncomputable def uin_t (_k : Nat → Cfg → Option (List RV)) (n : Int) : Option (List RV) := match decide (n ≥ (-10000000)) with | true => some [RV.d .bool (decide (n ≤ 10000000))] | false => some [RV.d .bool false]
theorem uin_eq (k : Nat → Cfg → Option (List RV)) (n : Int) : go Tryz.prog ft tys envTb2 uin_nt k 4000 (start 45 [SI n]) (.node 0) = uin_t k n := (go2_eq _ _ _ _ _ _ _ _ _).symm.trans (show go2 Tryz.prog ft tys envTb2 uin_nt k 4000 (start 45 [SI n]) (.node 0) = uin_t k n by kernel_rfl)
theorem uin_s (n : Int) {rX : List RV} (hX : ∃ nX, uin_t (uin_C.k nX) n = some rX) : uin_C.Res 45 [SI n] rX := by
  obtain ⟨nX, hX⟩ := hX
  exact ⟨nX, (uin_eq _ n).trans hX⟩
theorem uin_con (n : Int) : Con Tryz.prog 45 [.d (.int .i64) n] [.d .bool (!(farI n))] := by
  refine Ctx.Res.con (C := uin_C) (ctx_ok envTb2_ok) (uin_s _ ⟨0, ?_⟩) (fn := Tryz.f45) (by kernel_rfl) (by kernel_rfl)
  unfold uin_t farI
  rcases Int.lt_or_le n (-10000000) with h | h
  · rw [dF (show ¬ n ≥ -10000000 by omega), dT (show n < -10000000 from h), Bool.or_true]
    rfl
  · rw [dT (show n ≥ -10000000 from h), dF (show ¬ n < -10000000 by omega), Bool.or_false]
    rw [show decide (n ≤ 10000000) = !decide (n > 10000000) by rw [← decide_not]; exact decide_eq_decide.2 (by omega)]
def uin_tp : Spec := { keep := true, tame := true, run := fun _ args k => match args with
  | [.d (.int .i64) n] => k [RV.d .bool (!(farI n))]
  | _ => none }
theorem uin_tpec : callable Tryz.prog 45 = true ∧ SpecOk Tryz.prog 45 uin_tp ∧ ∀ g, uin_tp.mut_ = some g → MCon Tryz.prog 45 g := by
  refine ⟨by kernel_rfl, fun R args k r h => ?_, fun g h => by cases h⟩
  unfold uin_tp at h
  dsimp only at h
  split at h <;> try (cases h; done)
  exact ⟨_, h, uin_con _ ⟩

noncomputable def envTb3 : Env := [(33, qrfi_tp), (30, qrcm_tp), (63, esg_tp), (45, uin_tp)]
theorem envTb3_ok : EnvAll Tryz.prog envTb3 := ⟨qrfi_tpec, qrcm_tpec, esg_tpec, uin_tpec, trivial⟩
def uins_nt : NT := []
noncomputable def uins_C : Ctx := ⟨Tryz.prog, ft, tys, envTb3, uins_nt⟩
noncomputable def uins_t (_k : Nat → Cfg → Option (List RV)) (a : (Int × Int)) : Option (List RV) := match !(farI a.1) with | true => some [RV.d .bool (!(farI a.2))] | false => some [RV.d .bool false]
theorem uins_eq (k : Nat → Cfg → Option (List RV)) (a : (Int × Int)) : go Tryz.prog ft tys envTb3 uins_nt k 4000 (start 29 [.d tG a]) (.node 0) = uins_t k a := (go2_eq _ _ _ _ _ _ _ _ _).symm.trans (show go2 Tryz.prog ft tys envTb3 uins_nt k 4000 (start 29 [.d tG a]) (.node 0) = uins_t k a by kernel_rfl)
theorem uins_s (a : (Int × Int)) {rX : List RV} (hX : ∃ nX, uins_t (uins_C.k nX) a = some rX) : uins_C.Res 29 [.d tG a] rX := by
  obtain ⟨nX, hX⟩ := hX
  exact ⟨nX, (uins_eq _ a).trans hX⟩
theorem uins_con (a : (Int × Int)) : Con Tryz.prog 29 [.d tG a] [.d .bool (insB a)] := by
  refine Ctx.Res.con (C := uins_C) (ctx_ok envTb3_ok) (uins_s _ ⟨0, ?_⟩) (fn := Tryz.f29) (by kernel_rfl) (by kernel_rfl)
  unfold uins_t insB
  cases farI a.1 <;> rfl

def uvc_nt : NT := []
noncomputable def uvc_C : Ctx := ⟨Tryz.prog, ft, tys, envTb3, uvc_nt⟩
noncomputable def uvc_t (_k : Nat → Cfg → Option (List RV)) (x : Int) (y : Int) : Option (List RV) := match decide (i64P x) with | true => (match decide (i64P y) with | true => some [RV.d tV (hid (encR (x : Rat)), hid (encR (y : Rat)))] | false => none) | false => none
theorem uvc_eq (k : Nat → Cfg → Option (List RV)) (x : Int) (y : Int) : go Tryz.prog ft tys envTb3 uvc_nt k 4000 (start 64 [SI x, SI y]) (.node 0) = uvc_t k x y := (go2_eq _ _ _ _ _ _ _ _ _).symm.trans (show go2 Tryz.prog ft tys envTb3 uvc_nt k 4000 (start 64 [SI x, SI y]) (.node 0) = uvc_t k x y by kernel_rfl)
theorem uvc_s (x : Int) (y : Int) {rX : List RV} (hX : ∃ nX, uvc_t (uvc_C.k nX) x y = some rX) : uvc_C.Res 64 [SI x, SI y] rX := by
  obtain ⟨nX, hX⟩ := hX
  exact ⟨nX, (uvc_eq _ x y).trans hX⟩
theorem uvc_con (x : Int) (y : Int) (h : i64P x ∧ i64P y) : Con Tryz.prog 64 [.d (.int .i64) x, .d (.int .i64) y] [.d tV (enc (vecR (x, y)))] := by
  refine Ctx.Res.con (C := uvc_C) (ctx_ok envTb3_ok) (uvc_s _ _ ⟨0, ?_⟩) (fn := Tryz.f64) (by kernel_rfl) (by kernel_rfl)
  unfold uvc_t
  rw [dT h.1, dT h.2]
  simp only [hid_eq]
  rfl
def uins_tp : Spec := { keep := true, tame := true, run := fun _ args k => match args with
  | [.d (.st (.pair (.int .i64) (.int .i64))) a] => k [RV.d .bool (insB a)]
  | _ => none }
theorem uins_tpec : callable Tryz.prog 29 = true ∧ SpecOk Tryz.prog 29 uins_tp ∧ ∀ g, uins_tp.mut_ = some g → MCon Tryz.prog 29 g := by
  refine ⟨by kernel_rfl, fun R args k r h => ?_, fun g h => by cases h⟩
  unfold uins_tp at h
  dsimp only at h
  split at h <;> try (cases h; done)
  exact ⟨_, h, uins_con _ ⟩

noncomputable def uvc_tp : Spec := { keep := false, tame := true, run := fun _ args k => match args with
  | [.d (.int .i64) x, .d (.int .i64) y] => match decide (i64P x ∧ i64P y) with
    | true => k [RV.d tV (hid (enc (vecR (x, y))))]
    | false => none
  | _ => none }
theorem uvc_tpec : callable Tryz.prog 64 = true ∧ SpecOk Tryz.prog 64 uvc_tp ∧ ∀ g, uvc_tp.mut_ = some g → MCon Tryz.prog 64 g := by
  refine ⟨by kernel_rfl, fun R args k r h => ?_, fun g h => by cases h⟩
  unfold uvc_tp at h
  dsimp only at h
  split at h <;> try (cases h; done)
  split at h <;> try (cases h; done)
  rename_i hd
  simp only [hid_eq] at h
  exact ⟨_, h, uvc_con _ _ (of_decide_eq_true hd)⟩

noncomputable def envTb4 : Env := [(33, qrfi_tp), (30, qrcm_tp), (63, esg_tp), (45, uin_tp), (29, uins_tp), (64, uvc_tp)]
theorem envTb4_ok : EnvAll Tryz.prog envTb4 := ⟨qrfi_tpec, qrcm_tpec, esg_tpec, uin_tpec, uins_tpec, uvc_tpec, trivial⟩
def uvec_nt : NT := []
noncomputable def uvec_C : Ctx := ⟨Tryz.prog, ft, tys, envTb4, uvec_nt⟩
noncomputable def uvec_t (_k : Nat → Cfg → Option (List RV)) (a : (Int × Int)) : Option (List RV) := match decide (i64P a.1 ∧ i64P a.2) with | true => some [RV.d tV (hid (enc (vecR (a.1, a.2))))] | false => none
theorem uvec_eq (k : Nat → Cfg → Option (List RV)) (a : (Int × Int)) : go Tryz.prog ft tys envTb4 uvec_nt k 4000 (start 32 [.d tG a]) (.node 0) = uvec_t k a := (go2_eq _ _ _ _ _ _ _ _ _).symm.trans (show go2 Tryz.prog ft tys envTb4 uvec_nt k 4000 (start 32 [.d tG a]) (.node 0) = uvec_t k a by kernel_rfl)
theorem uvec_s (a : (Int × Int)) {rX : List RV} (hX : ∃ nX, uvec_t (uvec_C.k nX) a = some rX) : uvec_C.Res 32 [.d tG a] rX := by
  obtain ⟨nX, hX⟩ := hX
  exact ⟨nX, (uvec_eq _ a).trans hX⟩
theorem uvec_con (a : (Int × Int)) (h : gridP a) : Con Tryz.prog 32 [.d tG a] [.d tV (enc (vecR a))] := by
  refine Ctx.Res.con (C := uvec_C) (ctx_ok envTb4_ok) (uvec_s _ ⟨0, ?_⟩) (fn := Tryz.f32) (by kernel_rfl) (by kernel_rfl)
  unfold uvec_t
  rw [dT (show i64P a.1 ∧ i64P a.2 from h), hid_eq]
noncomputable def uvec_tp : Spec := { keep := false, tame := true, run := fun _ args k => match args with
  | [.d (.st (.pair (.int .i64) (.int .i64))) a] => match decide (gridP a) with
    | true => k [RV.d tV (hid (enc (vecR a)))]
    | false => none
  | _ => none }
theorem uvec_tpec : callable Tryz.prog 32 = true ∧ SpecOk Tryz.prog 32 uvec_tp ∧ ∀ g, uvec_tp.mut_ = some g → MCon Tryz.prog 32 g := by
  refine ⟨by kernel_rfl, fun R args k r h => ?_, fun g h => by cases h⟩
  unfold uvec_tp at h
  dsimp only at h
  split at h <;> try (cases h; done)
  split at h <;> try (cases h; done)
  rename_i hd
  simp only [hid_eq] at h
  exact ⟨_, h, uvec_con _ (of_decide_eq_true hd)⟩

noncomputable def envTb5 : Env := [(33, qrfi_tp), (30, qrcm_tp), (63, esg_tp), (45, uin_tp), (29, uins_tp), (64, uvc_tp), (32, uvec_tp)]
theorem envTb5_ok : EnvAll Tryz.prog envTb5 := ⟨qrfi_tpec, qrcm_tpec, esg_tpec, uin_tpec, uins_tpec, uvc_tpec, uvec_tpec, trivial⟩
def usq_nt : NT := []
noncomputable def usq_C : Ctx := ⟨Tryz.prog, ft, tys, envTb5, usq_nt⟩
noncomputable def usq_t (_k : Nat → Cfg → Option (List RV)) (a : (Int × Int)) (b : (Int × Int)) (v : BV) : Option (List RV) := match decide (gridP a) with | true => (match decide (gridP b) with | true => (match decide (ok (Rat × Rat) 100 (hid (enc (vecR a))) ∧ ok (Rat × Rat) 100 (hid (enc (vecR b))) ∧ ok (Rat × Rat) 100 v ∧ ok (Rat × Rat) 100 v) with | true => some [RV.d tR (hid (encR (segR (dec (hid (enc (vecR a)))) (dec (hid (enc (vecR b)))) (dec v) (dec v))))] | false => none) | false => none) | false => none
theorem usq_eq (k : Nat → Cfg → Option (List RV)) (a : (Int × Int)) (b : (Int × Int)) (v : BV) : go Tryz.prog ft tys envTb5 usq_nt k 4000 (start 31 [.d tG a, .d tG b, .d tV v]) (.node 0) = usq_t k a b v := (go2_eq _ _ _ _ _ _ _ _ _).symm.trans (show go2 Tryz.prog ft tys envTb5 usq_nt k 4000 (start 31 [.d tG a, .d tG b, .d tV v]) (.node 0) = usq_t k a b v by kernel_rfl)
theorem usq_s (a : (Int × Int)) (b : (Int × Int)) (v : BV) {rX : List RV} (hX : ∃ nX, usq_t (usq_C.k nX) a b v = some rX) : usq_C.Res 31 [.d tG a, .d tG b, .d tV v] rX := by
  obtain ⟨nX, hX⟩ := hX
  exact ⟨nX, (usq_eq _ a b v).trans hX⟩
theorem usq_con (a : (Int × Int)) (b : (Int × Int)) (v : BV) (h : gridP a ∧ gridP b ∧ ok (Rat × Rat) 100 v) : Con Tryz.prog 31 [.d tG a, .d tG b, .d tV v] [.d tR (encR (segR (vecR a) (vecR b) (dec v) (dec v)))] := by
  refine Ctx.Res.con (C := usq_C) (ctx_ok envTb5_ok) (usq_s _ _ _ ⟨0, ?_⟩) (fn := Tryz.f31) (by kernel_rfl) (by kernel_rfl)
  obtain ⟨ga, gb, hv⟩ := h
  obtain ⟨v, rfl, bv⟩ := ok_ex hv
  have ba := bd_vec ga
  have bb := bd_vec gb
  unfold usq_t
  simp only [okd_grid ga, okd_grid gb, hid_eq, dec_enc', okd, Bool.decide_and, Bool.and_self, Nat.reduceLeDiff]
noncomputable def usq_tp : Spec := { keep := false, tame := true, run := fun _ args k => match args with
  | [.d (.st (.pair (.int .i64) (.int .i64))) a, .d (.st (.pair (.int .i64) (.int .i64))) b, .d (.st (.pair (.st (.pair (.st (.pair .bool (.sl (.int .u32)))) (.st (.pair .bool (.sl (.int .u32)))))) (.st (.pair (.st (.pair .bool (.sl (.int .u32)))) (.st (.pair .bool (.sl (.int .u32)))))))) v] => match decide (gridP a ∧ gridP b ∧ ok (Rat × Rat) 100 v) with
    | true => k [RV.d tR (hid (encR (segR (vecR a) (vecR b) (dec v) (dec v))))]
    | false => none
  | _ => none }
theorem usq_tpec : callable Tryz.prog 31 = true ∧ SpecOk Tryz.prog 31 usq_tp ∧ ∀ g, usq_tp.mut_ = some g → MCon Tryz.prog 31 g := by
  refine ⟨by kernel_rfl, fun R args k r h => ?_, fun g h => by cases h⟩
  unfold usq_tp at h
  dsimp only at h
  split at h <;> try (cases h; done)
  split at h <;> try (cases h; done)
  rename_i hd
  simp only [hid_eq] at h
  exact ⟨_, h, usq_con _ _ _ (of_decide_eq_true hd)⟩

noncomputable def envTb6 : Env := [(33, qrfi_tp), (30, qrcm_tp), (63, esg_tp), (45, uin_tp), (29, uins_tp), (64, uvc_tp), (32, uvec_tp), (31, usq_tp)]
theorem envTb6_ok : EnvAll Tryz.prog envTb6 := ⟨qrfi_tpec, qrcm_tpec, esg_tpec, uin_tpec, uins_tpec, uvc_tpec, uvec_tpec, usq_tpec, trivial⟩
def uon_nt : NT := []
noncomputable def uon_C : Ctx := ⟨Tryz.prog, ft, tys, envTb6, uon_nt⟩
noncomputable def uon_t (_k : Nat → Cfg → Option (List RV)) (a : (Int × Int)) (b : (Int × Int)) (x : (Int × Int)) : Option (List RV) := match !(insB a) with | true => some [RV.d .bool false] | false => (match !(insB b) with | true => some [RV.d .bool false] | false => (match !(insB x) with | true => some [RV.d .bool false] | false => (match decide (gridP x) with | true => (match decide (gridP a ∧ gridP b ∧ ok (Rat × Rat) 100 (hid (enc (vecR x)))) with | true => (match decide (i64P (1 : Int)) with | true => (match decide (okR (hid (encR (segR (vecR a) (vecR b) (dec (hid (enc (vecR x)))) (dec (hid (enc (vecR x))))))) ∧ okR (hid (encR ((1 : Int) : Rat)))) with | true => some [RV.d .bool (decide ((cmpR (decR (hid (encR (segR (vecR a) (vecR b) (dec (hid (enc (vecR x)))) (dec (hid (enc (vecR x)))))))) (decR (hid (encR ((1 : Int) : Rat))))) ≤ 0))] | false => none) | false => none) | false => none) | false => none)))
theorem uon_eq (k : Nat → Cfg → Option (List RV)) (a : (Int × Int)) (b : (Int × Int)) (x : (Int × Int)) : go Tryz.prog ft tys envTb6 uon_nt k 4000 (start 9 [.d tG a, .d tG b, .d tG x]) (.node 0) = uon_t k a b x := (go2_eq _ _ _ _ _ _ _ _ _).symm.trans (show go2 Tryz.prog ft tys envTb6 uon_nt k 4000 (start 9 [.d tG a, .d tG b, .d tG x]) (.node 0) = uon_t k a b x by kernel_rfl)
theorem uon_s (a : (Int × Int)) (b : (Int × Int)) (x : (Int × Int)) {rX : List RV} (hX : ∃ nX, uon_t (uon_C.k nX) a b x = some rX) : uon_C.Res 9 [.d tG a, .d tG b, .d tG x] rX := by
  obtain ⟨nX, hX⟩ := hX
  exact ⟨nX, (uon_eq _ a b x).trans hX⟩
theorem uon_con (a : (Int × Int)) (b : (Int × Int)) (x : (Int × Int)) : Con Tryz.prog 9 [.d tG a, .d tG b, .d tG x] [.d .bool (onB a b x)] := by
  refine Ctx.Res.con (C := uon_C) (ctx_ok envTb6_ok) (uon_s _ _ _ ⟨0, ?_⟩) (fn := Tryz.f9) (by kernel_rfl) (by kernel_rfl)
  unfold uon_t onB
  have hf : farL [a.1, a.2, b.1, b.2, x.1, x.2] = !(insB a && (insB b && insB x)) := by
    unfold farL insB
    simp only [List.any_cons, List.any_nil]
    cases farI a.1 <;> cases farI a.2 <;> cases farI b.1 <;> cases farI b.2 <;> cases farI x.1 <;> cases farI x.2 <;> rfl
  rw [hf]
  have ex : ∀ {z : Int × Int}, insB z = true → gridP z := fun h => by
    unfold insB at h
    simp only [Bool.and_eq_true, Bool.not_eq_true'] at h
    exact ⟨farI_i64 h.1, farI_i64 h.2⟩
  cases ha : insB a
  · rfl
  cases hb : insB b
  · rfl
  cases hx : insB x
  · rfl
  have ga := ex ha
  have gb := ex hb
  have gx := ex hx
  have ba := bd_vec ga
  have bb := bd_vec gb
  have bx := bd_vec gx
  have h1' : i64P 1 := by decide
  simp only [okd_grid ga, okd_grid gb, okd_grid gx, dT h1', hid_eq, dec_enc', dec_encR, okd, okd_R, Bool.decide_and, Bool.and_self, Nat.reduceAdd, Nat.reduceMul, Nat.reduceLeDiff, cmpR_leb]
  rfl
end Go.Proofs.YtcaiedfkohigjaaGreat
/- tabs: part, ends. -/
namespace Go.Proofs.YtcaiedfkohigjaaGreat
open Go.RowKit
def partN (d w n : Int) : Int := isqI (d * w * (d * w) * 1099511627776 / n)
def partF (d w n : Int) : Int := bif decide (d < 0) then IntKind.i64.wrap (0 - (bif decide (i64P (partN d w n)) then partN d w n else 0)) else (bif decide (i64P (partN d w n)) then partN d w n else 0)
def partP (d w n : Int) : Prop := i64P d ∧ i64P w ∧ i64P n ∧ 0 < n
instance (d w n : Int) : Decidable (partP d w n) := by unfold partP; infer_instance
def atG (p : List (Int × Int)) (i : Int) : Int × Int := p.getD i.toNat (0, 0)
def nxG (p : List (Int × Int)) (i : Int) : Int := (i + 1) % (p.length : Int)
def endP (p : List (Int × Int)) (i : Int) : Prop := 0 ≤ i ∧ i < (p.length : Int) ∧ p.length ≤ 1000000000
instance (p : List (Int × Int)) (i : Int) : Decidable (endP p i) := by unfold endP; infer_instance
theorem szI_64 {n : Int} (h : i64P n) : szI n ≤ 3 := by
  have : pw 3 = 1000000000000000000000000000 := by decide
  exact szI_le (by have := h.1; omega) (by have := h.2; omega)
def fri_up : Spec := { keep := false, tame := true, run := fun _ args k => match args with
  | [.d (.int .i64) n] => match decide (i64P n) with
    | true => k [RV.d tI (encI n)]
    | false => none
  | _ => none }
theorem fri_upec : callable Tryz.prog 60 = true ∧ SpecOk Tryz.prog 60 fri_up ∧ ∀ g, fri_up.mut_ = some g → MCon Tryz.prog 60 g := by
  refine ⟨by kernel_rfl, fun R args k r h => ?_, fun g h => by cases h⟩
  unfold fri_up at h
  dsimp only at h
  split at h <;> try (cases h; done)
  split at h <;> try (cases h; done)
  rename_i hd
  exact ⟨_, h, fri_con _ (of_decide_eq_true hd)⟩

def imu_up : Spec := { keep := false, tame := true, run := fun _ args k => match args with
  | [.d (.st (.pair .bool (.sl (.int .u32)))) x, .d (.st (.pair .bool (.sl (.int .u32)))) y] => match decide (okI x ∧ okI y) with
    | true => k [RV.d tI (encI (decI x * decI y))]
    | false => none
  | _ => none }
theorem imu_upec : callable Tryz.prog 56 = true ∧ SpecOk Tryz.prog 56 imu_up ∧ ∀ g, imu_up.mut_ = some g → MCon Tryz.prog 56 g := by
  refine ⟨by kernel_rfl, fun R args k r h => ?_, fun g h => by cases h⟩
  unfold imu_up at h
  dsimp only at h
  split at h <;> try (cases h; done)
  split at h <;> try (cases h; done)
  rename_i hd
  exact ⟨_, h, imu_con _ _ (of_decide_eq_true hd)⟩

def idm_up : Spec := { keep := false, tame := true, run := fun _ args k => match args with
  | [.d (.st (.pair .bool (.sl (.int .u32)))) x, .d (.st (.pair .bool (.sl (.int .u32)))) y] => match decide (idmP x y) with
    | true => k [RV.d tI (encI (decI x / decI y)), RV.d tI (encI (decI x % decI y)), RV.d (.int .i64) 0]
    | false => none
  | _ => none }
theorem idm_upec : callable Tryz.prog 117 = true ∧ SpecOk Tryz.prog 117 idm_up ∧ ∀ g, idm_up.mut_ = some g → MCon Tryz.prog 117 g := by
  refine ⟨by kernel_rfl, fun R args k r h => ?_, fun g h => by cases h⟩
  unfold idm_up at h
  dsimp only at h
  split at h <;> try (cases h; done)
  split at h <;> try (cases h; done)
  rename_i hd
  exact ⟨_, h, idm_con _ _ (of_decide_eq_true hd)⟩

def isq_up : Spec := { keep := false, tame := true, run := fun _ args k => match args with
  | [.d (.st (.pair .bool (.sl (.int .u32)))) x] => match decide (okI x) with
    | true => k [RV.d tI (sqtI x), RV.d (.int .i64) (sqtE x)]
    | false => none
  | _ => none }
theorem isq_upec : callable Tryz.prog 118 = true ∧ SpecOk Tryz.prog 118 isq_up ∧ ∀ g, isq_up.mut_ = some g → MCon Tryz.prog 118 g := by
  refine ⟨by kernel_rfl, fun R args k r h => ?_, fun g h => by cases h⟩
  unfold isq_up at h
  dsimp only at h
  split at h <;> try (cases h; done)
  split at h <;> try (cases h; done)
  rename_i hd
  exact ⟨_, h, isq_con _ (of_decide_eq_true hd)⟩

def i64_up : Spec := { keep := true, tame := true, run := fun _ args k => match args with
  | [.d (.st (.pair .bool (.sl (.int .u32)))) x] => match decide (okI x) with
    | true => k [RV.d (.int .i64) (bif decide (i64P (decI x)) then decI x else 0), RV.d .bool (decide (i64P (decI x)))]
    | false => none
  | _ => none }
theorem i64_upec : callable Tryz.prog 119 = true ∧ SpecOk Tryz.prog 119 i64_up ∧ ∀ g, i64_up.mut_ = some g → MCon Tryz.prog 119 g := by
  refine ⟨by kernel_rfl, fun R args k r h => ?_, fun g h => by cases h⟩
  unfold i64_up at h
  dsimp only at h
  split at h <;> try (cases h; done)
  split at h <;> try (cases h; done)
  rename_i hd
  exact ⟨_, h, i64_con _ (of_decide_eq_true hd)⟩

def envTc1 : Env := [(60, fri_up), (56, imu_up), (117, idm_up), (118, isq_up), (119, i64_up)]
theorem envTc1_ok : EnvAll Tryz.prog envTc1 := ⟨fri_upec, imu_upec, idm_upec, isq_upec, i64_upec, trivial⟩
def tprt_nt : NT := []
noncomputable def tprt_C : Ctx := ⟨Tryz.prog, ft, tys, envTc1, tprt_nt⟩
noncomputable def tprt_t (_k : Nat → Cfg → Option (List RV)) (d : Int) (w : Int) (n : Int) : Option (List RV) := match decide (i64P d) with | true => (match decide (i64P w) with | true => (match decide (okI (encI d) ∧ okI (encI w)) with | true => (match decide (okI (encI (decI (encI d) * decI (encI w))) ∧ okI (encI (decI (encI d) * decI (encI w)))) with | true => (match decide (i64P (1099511627776 : Int)) with | true => (match decide (okI (encI (decI (encI (decI (encI d) * decI (encI w))) * decI (encI (decI (encI d) * decI (encI w))))) ∧ okI (encI (1099511627776 : Int))) with | true => (match decide (i64P n) with | true => (match decide (idmP (encI (decI (encI (decI (encI (decI (encI d) * decI (encI w))) * decI (encI (decI (encI d) * decI (encI w))))) * decI (encI (1099511627776 : Int)))) (encI n)) with | true => (match 0 != 0 with | true => some [RV.d (.int .i64) 0] | false => (match decide (okI (encI (decI (encI (decI (encI (decI (encI (decI (encI d) * decI (encI w))) * decI (encI (decI (encI d) * decI (encI w))))) * decI (encI (1099511627776 : Int)))) / decI (encI n)))) with | true => (match decide (okI (sqtI (encI (decI (encI (decI (encI (decI (encI (decI (encI d) * decI (encI w))) * decI (encI (decI (encI d) * decI (encI w))))) * decI (encI (1099511627776 : Int)))) / decI (encI n))))) with | true => (match decide (d < 0) with | true => some [RV.d (.int .i64) (IntKind.i64.wrap (0 - (bif decide (i64P (decI (sqtI (encI (decI (encI (decI (encI (decI (encI (decI (encI d) * decI (encI w))) * decI (encI (decI (encI d) * decI (encI w))))) * decI (encI (1099511627776 : Int)))) / decI (encI n)))))) then decI (sqtI (encI (decI (encI (decI (encI (decI (encI (decI (encI d) * decI (encI w))) * decI (encI (decI (encI d) * decI (encI w))))) * decI (encI (1099511627776 : Int)))) / decI (encI n)))) else 0)))] | false => some [RV.d (.int .i64) (bif decide (i64P (decI (sqtI (encI (decI (encI (decI (encI (decI (encI (decI (encI d) * decI (encI w))) * decI (encI (decI (encI d) * decI (encI w))))) * decI (encI (1099511627776 : Int)))) / decI (encI n)))))) then decI (sqtI (encI (decI (encI (decI (encI (decI (encI (decI (encI d) * decI (encI w))) * decI (encI (decI (encI d) * decI (encI w))))) * decI (encI (1099511627776 : Int)))) / decI (encI n)))) else 0)]) | false => none) | false => none)) | false => none) | false => none) | false => none) | false => none) | false => none) | false => none) | false => none) | false => none
theorem tprt_eq (k : Nat → Cfg → Option (List RV)) (d : Int) (w : Int) (n : Int) : go Tryz.prog ft tys envTc1 tprt_nt k 4000 (start 75 [SI d, SI w, SI n]) (.node 0) = tprt_t k d w n := (go2_eq _ _ _ _ _ _ _ _ _).symm.trans (show go2 Tryz.prog ft tys envTc1 tprt_nt k 4000 (start 75 [SI d, SI w, SI n]) (.node 0) = tprt_t k d w n by kernel_rfl)
theorem tprt_s (d : Int) (w : Int) (n : Int) {rX : List RV} (hX : ∃ nX, tprt_t (tprt_C.k nX) d w n = some rX) : tprt_C.Res 75 [SI d, SI w, SI n] rX := by
  obtain ⟨nX, hX⟩ := hX
  exact ⟨nX, (tprt_eq _ d w n).trans hX⟩
def tend_nt : NT := []
noncomputable def tend_C : Ctx := ⟨Tryz.prog, ft, tys, envTc1, tend_nt⟩
noncomputable def tend_t (_k : Nat → Cfg → Option (List RV)) (p : List ((Int × Int))) (i : Int) : Option (List RV) := match getI p i with | some x1 => (match decide ((p.length : Int) = (0 : Int)) with | true => none | false => (match getI p (Int.tmod (IntKind.i64.wrap (i + 1)) (p.length : Int)) with | some x2 => dup (.b .l .l) (some [RV.d tG x1, RV.d tG x2]) | none => none)) | none => none
theorem tend_eq (k : Nat → Cfg → Option (List RV)) (p : List ((Int × Int))) (i : Int) : go Tryz.prog ft tys envTc1 tend_nt k 4000 (start 35 [.d (.sl tG) p, SI i]) (.node 0) = tend_t k p i := (go2_eq _ _ _ _ _ _ _ _ _).symm.trans (show go2 Tryz.prog ft tys envTc1 tend_nt k 4000 (start 35 [.d (.sl tG) p, SI i]) (.node 0) = tend_t k p i by kernel_rfl)
theorem tend_s (p : List ((Int × Int))) (i : Int) {rX : List RV} (hX : ∃ nX, tend_t (tend_C.k nX) p i = some rX) : tend_C.Res 35 [.d (.sl tG) p, SI i] rX := by
  obtain ⟨nX, hX⟩ := hX
  exact ⟨nX, (tend_eq _ p i).trans hX⟩
theorem tprt_con (d : Int) (w : Int) (n : Int) (h : partP d w n) : Con Tryz.prog 75 [.d (.int .i64) d, .d (.int .i64) w, .d (.int .i64) n] [.d (.int .i64) (partF d w n)] := by
  refine Ctx.Res.con (C := tprt_C) (ctx_ok envTc1_ok) (tprt_s _ _ _ ⟨0, ?_⟩) (fn := Tryz.f75) (by kernel_rfl) (by kernel_rfl)
  obtain ⟨hd, hw, hn, h0⟩ := h
  have sd := szI_64 hd
  have sw := szI_64 hw
  have sn := szI_64 hn
  have s1 := szI_mul sd sw
  have s2 := szI_mul s1 s1
  have s3 : szI 1099511627776 ≤ 2 := by decide
  have s4 := szI_mul s2 s3
  have hnn : 0 ≤ d * w * (d * w) * 1099511627776 := Int.mul_nonneg (by
    rcases Int.le_total 0 (d * w) with h | h
    · exact Int.mul_nonneg h h
    · exact Int.mul_nonneg_of_nonpos_of_nonpos h h) (by decide)
  have q0 : 0 ≤ d * w * (d * w) * 1099511627776 / n := Int.ediv_nonneg hnn (by omega)
  have q1 : d * w * (d * w) * 1099511627776 / n ≤ d * w * (d * w) * 1099511627776 := Int.ediv_le_self _ hnn
  have s5 : szI (d * w * (d * w) * 1099511627776 / n) ≤ 14 := Nat.le_trans (szI_of_le (by omega)) s4
  obtain ⟨r0, r1, r2⟩ := isqI_ok q0
  have s6 : szI (isqI (d * w * (d * w) * 1099511627776 / n)) ≤ 14 := Nat.le_trans (szI_of_le (by
    have : isqI (d * w * (d * w) * 1099511627776 / n) ≤ isqI (d * w * (d * w) * 1099511627776 / n) * isqI (d * w * (d * w) * 1099511627776 / n) := by
      rcases (show isqI (d * w * (d * w) * 1099511627776 / n) = 0 ∨ 1 ≤ isqI (d * w * (d * w) * 1099511627776 / n) by omega) with h | h
      · rw [h]; decide
      · have := Int.mul_le_mul_of_nonneg_left h (show 0 ≤ isqI (d * w * (d * w) * 1099511627776 / n) by omega)
        omega
    omega)) s5
  have e1 : sqtI (encI (d * w * (d * w) * 1099511627776 / n)) = encI (isqI (d * w * (d * w) * 1099511627776 / n)) := by
    unfold sqtI
    rw [show (encI (d * w * (d * w) * 1099511627776 / n)).1 = false from decide_eq_false (by omega), dec_enc]
    rfl
  unfold tprt_t
  rw [dT hd, dT hw, dT hn, dT (show i64P 1099511627776 by decide)]
  simp only [dec_enc, e1]
  rw [dT (show okI (encI d) ∧ okI (encI w) from ⟨okI_enc (by omega), okI_enc (by omega)⟩), dT (show okI (encI (d * w)) ∧ okI (encI (d * w)) from ⟨okI_enc (by omega), okI_enc (by omega)⟩), dT (show okI (encI (d * w * (d * w))) ∧ okI (encI 1099511627776) from ⟨okI_enc (by omega), by decide⟩), dT (show idmP (encI (d * w * (d * w) * 1099511627776)) (encI n) from ⟨okI_enc (by omega), okI_enc (by omega), by rw [dec_enc]; exact h0⟩), dT (show okI (encI (d * w * (d * w) * 1099511627776 / n)) from okI_enc (by omega)), dT (show okI (encI (isqI (d * w * (d * w) * 1099511627776 / n))) from okI_enc (by omega))]
  unfold partF partN
  cases decide (d < 0) <;> rfl
theorem tend_con (p : List ((Int × Int))) (i : Int) (h : endP p i) : Con Tryz.prog 35 [.d (.sl tG) p, .d (.int .i64) i] [.d tG (atG p i), .d tG (atG p (nxG p i))] := by
  refine Ctx.Res.con (C := tend_C) (ctx_ok envTc1_ok) (tend_s _ _ ⟨0, ?_⟩) (fn := Tryz.f35) (by kernel_rfl) (by kernel_rfl)
  obtain ⟨h0, h1, h2⟩ := h
  obtain ⟨k, rfl⟩ := Int.eq_ofNat_of_zero_le h0
  have hk : k < p.length := by omega
  have hm : (k + 1) % p.length < p.length := Nat.mod_lt _ (by omega)
  have e1 : Int.tmod (IntKind.i64.wrap ((k : Int) + 1)) (p.length : Int) = (((k + 1) % p.length : Nat) : Int) := by
    rw [wrapS (by omega), tmodP (by omega)]
    simp
  have e2 : nxG p (k : Int) = (((k + 1) % p.length : Nat) : Int) := by
    unfold nxG
    simp
  unfold tend_t atG
  rw [e2]
  simp only [e1, getI_nat, List.getElem?_eq_getElem hk, List.getElem?_eq_getElem hm, toNat_nat, List.getD_eq_getElem?_getD, Option.getD_some]
  rw [dF (show ¬ (p.length : Int) = 0 by omega)]
  dsimp only
  rw [dup_eq]
end Go.Proofs.YtcaiedfkohigjaaGreat
/- tabs: good, along, Valid; the reference's Path, along, Valid. -/
namespace Go.Proofs.YtcaiedfkohigjaaGreat
open Go.RowKit
abbrev TB := Int × (Int × Int) × Int × Int
def farG (p : List (Int × Int)) : Prop := p.length ≤ 1000000000
instance (p : List (Int × Int)) : Decidable (farG p) := by unfold farG; infer_instance
def farV (g : Int × Int) : Bool := farL [g.1, g.2]
def goodB (p : List (Int × Int)) : Bool := decide ((p.length : Int) ≤ 20000) && !(p.any farV)
def aloF (a b x : Int × Int) : Int := IntKind.i64.wrap ((IntKind.i64.wrap ((IntKind.i64.wrap (x.1 - a.1)) * (IntKind.i64.wrap (b.1 - a.1)))) + (IntKind.i64.wrap ((IntKind.i64.wrap (x.2 - a.2)) * (IntKind.i64.wrap (b.2 - a.2)))))
def aloT (p : List (Int × Int)) (t : TB) (x : Int × Int) : Int := aloF (atG p t.1) (atG p (nxG p t.1)) x
def tabOk (p : List (Int × Int)) (t : TB) : Bool := !(decide (t.1 < 0)) && (!(decide (t.1 ≥ (p.length : Int))) && (onB (atG p t.1) (atG p (nxG p t.1)) t.2.1 && (onB (atG p t.1) (atG p (nxG p t.1)) t.2.2 && !(decide (aloT p t t.2.1 ≥ aloT p t t.2.2)))))
def nextOk (p : List (Int × Int)) (s t : TB) : Bool := decide (s.1 < t.1) || (!(decide (s.1 > t.1)) && !(decide (aloT p t s.2.2 ≥ aloT p t t.2.1)))
def valG (p : List (Int × Int)) : Option TB → List TB → Bool
  | _, [] => true
  | none, t :: r => tabOk p t && valG p (some t) r
  | some s, t :: r => tabOk p t && (nextOk p s t && valG p (some t) r)
def valF (p : List (Int × Int)) (l : List TB) : Bool := goodB p && (!(decide ((p.length : Int) < 2)) && valG p none l)
def valP (p : List (Int × Int)) (l : List TB) : Prop := farG p ∧ l.length ≤ 1000000000
instance (p : List (Int × Int)) (l : List TB) : Decidable (valP p l) := by unfold valP; infer_instance
def envTd0 : Env := [(24, tfar_sp), (29, uins_tp)]
theorem envTd0_ok : EnvAll Tryz.prog envTd0 := ⟨tfar_spec, uins_tpec, trivial⟩
def tgood_nt : NT := [((96, 6), { keep := [0, 1, 7, 8], hl := 0 }), ((34, 3), { keep := [6, 8], hl := 0 }), ((67, 3), { keep := [7], hl := 0 }), ((96, 18), { keep := [0, 1, 5, 7, 8, 16], hl := 0 })]
noncomputable def tgood_C : Ctx := ⟨Tryz.prog, ft, tys, envTd0, tgood_nt⟩
def tgood_h96_6 (p : List ((Int × Int))) (s96_8 : Int) : Cfg := ⟨96, [.blk 0, .seq 25], [(0, .d (.sl tG) p), (1, .clo 68 []), (7, SI (p.length : Int)), (8, SI s96_8)], [], 0, [⟨67, [.seq 4], 3, 2, [], 0, none⟩, ⟨34, [.seq 4], 3, 5, [(6, SB true)], 0, none⟩]⟩
noncomputable def tgood_t (k : Nat → Cfg → Option (List RV)) (p : List ((Int × Int))) : Option (List RV) := match decide ((p.length : Int) ≤ 20000) with | true => k 6 (tgood_h96_6 p 0) | false => some [RV.d .bool false]
theorem tgood_eq (k : Nat → Cfg → Option (List RV)) (p : List ((Int × Int))) : go Tryz.prog ft tys envTd0 tgood_nt k 4000 (start 34 [.d (.sl tG) p]) (.node 0) = tgood_t k p := (go2_eq _ _ _ _ _ _ _ _ _).symm.trans (show go2 Tryz.prog ft tys envTd0 tgood_nt k 4000 (start 34 [.d (.sl tG) p]) (.node 0) = tgood_t k p by kernel_rfl)
theorem tgood_s (p : List ((Int × Int))) {rX : List RV} (hX : ∃ nX, tgood_t (tgood_C.k nX) p = some rX) : tgood_C.Res 34 [.d (.sl tG) p] rX := by
  obtain ⟨nX, hX⟩ := hX
  exact ⟨nX, (tgood_eq _ p).trans hX⟩
noncomputable def tgood_h96_6_t (k : Nat → Cfg → Option (List RV)) (p : List ((Int × Int))) (s96_8 : Int) : Option (List RV) := match decide (s96_8 < (p.length : Int)) with | true => (match getI p s96_8 with | some x1 => (match decide (farP ([x1.1, x1.2])) with | true => (match farL ([x1.1, x1.2]) with | true => some [RV.d .bool (!(decide (s96_8 ≥ 0)))] | false => k 6 (tgood_h96_6 p (IntKind.i64.wrap (s96_8 + 1)))) | false => none) | none => none) | false => some [RV.d .bool (!(decide ((-1) ≥ 0)))]
theorem tgood_h96_6_eq (k : Nat → Cfg → Option (List RV)) (p : List ((Int × Int))) (s96_8 : Int) : go Tryz.prog ft tys envTd0 tgood_nt k 4000 { tgood_h96_6 p s96_8 with K := .lp 6 :: (tgood_h96_6 p s96_8).K } (.node 7) = tgood_h96_6_t k p s96_8 := (go2_eq _ _ _ _ _ _ _ _ _).symm.trans (show go2 Tryz.prog ft tys envTd0 tgood_nt k 4000 { tgood_h96_6 p s96_8 with K := .lp 6 :: (tgood_h96_6 p s96_8).K } (.node 7) = tgood_h96_6_t k p s96_8 by kernel_rfl)
theorem tgood_h96_6_s (p : List ((Int × Int))) (s96_8 : Int) {rX : List RV} (hX : ∃ nX, tgood_h96_6_t (tgood_C.k nX) p s96_8 = some rX) : tgood_C.Runs 6 (tgood_h96_6 p s96_8) rX := by
  obtain ⟨nX, hX⟩ := hX
  exact ⟨nX + 1, (tgood_h96_6_eq _ p s96_8).trans hX⟩
def upath_nt : NT := [((37, 6), { keep := [0, 3], hl := 0 })]
noncomputable def upath_C : Ctx := ⟨Tryz.prog, ft, tys, envTd0, upath_nt⟩
def upath_h6 (p : List ((Int × Int))) (s3 : Int) : Cfg := ⟨37, [.blk 0, .seq 23], [(0, .d (.sl tG) p), (3, SI s3)], [], 0, []⟩
noncomputable def upath_t (k : Nat → Cfg → Option (List RV)) (p : List ((Int × Int))) : Option (List RV) := k 6 (upath_h6 p 0)
theorem upath_eq (k : Nat → Cfg → Option (List RV)) (p : List ((Int × Int))) : go Tryz.prog ft tys envTd0 upath_nt k 4000 (start 37 [.d (.sl tG) p]) (.node 0) = upath_t k p := (go2_eq _ _ _ _ _ _ _ _ _).symm.trans (show go2 Tryz.prog ft tys envTd0 upath_nt k 4000 (start 37 [.d (.sl tG) p]) (.node 0) = upath_t k p by kernel_rfl)
theorem upath_s (p : List ((Int × Int))) {rX : List RV} (hX : ∃ nX, upath_t (upath_C.k nX) p = some rX) : upath_C.Res 37 [.d (.sl tG) p] rX := by
  obtain ⟨nX, hX⟩ := hX
  exact ⟨nX, (upath_eq _ p).trans hX⟩
noncomputable def upath_h6_t (k : Nat → Cfg → Option (List RV)) (p : List ((Int × Int))) (s3 : Int) : Option (List RV) := match decide (s3 < (p.length : Int)) with | true => (match getI p s3 with | some x1 => (match !(insB x1) with | true => some [RV.d .bool false] | false => k 6 (upath_h6 p (IntKind.i64.wrap (s3 + 1)))) | none => none) | false => some [RV.d .bool (decide ((p.length : Int) ≤ 20000))]
theorem upath_h6_eq (k : Nat → Cfg → Option (List RV)) (p : List ((Int × Int))) (s3 : Int) : go Tryz.prog ft tys envTd0 upath_nt k 4000 { upath_h6 p s3 with K := .lp 6 :: (upath_h6 p s3).K } (.node 7) = upath_h6_t k p s3 := (go2_eq _ _ _ _ _ _ _ _ _).symm.trans (show go2 Tryz.prog ft tys envTd0 upath_nt k 4000 { upath_h6 p s3 with K := .lp 6 :: (upath_h6 p s3).K } (.node 7) = upath_h6_t k p s3 by kernel_rfl)
theorem upath_h6_s (p : List ((Int × Int))) (s3 : Int) {rX : List RV} (hX : ∃ nX, upath_h6_t (upath_C.k nX) p s3 = some rX) : upath_C.Runs 6 (upath_h6 p s3) rX := by
  obtain ⟨nX, hX⟩ := hX
  exact ⟨nX + 1, (upath_h6_eq _ p s3).trans hX⟩
def talo_nt : NT := []
noncomputable def talo_C : Ctx := ⟨Tryz.prog, ft, tys, envTd0, talo_nt⟩
noncomputable def talo_t (_k : Nat → Cfg → Option (List RV)) (a : (Int × Int)) (b : (Int × Int)) (x : (Int × Int)) : Option (List RV) := some [RV.d (.int .i64) (IntKind.i64.wrap ((IntKind.i64.wrap ((IntKind.i64.wrap (x.1 - a.1)) * (IntKind.i64.wrap (b.1 - a.1)))) + (IntKind.i64.wrap ((IntKind.i64.wrap (x.2 - a.2)) * (IntKind.i64.wrap (b.2 - a.2))))))]
theorem talo_eq (k : Nat → Cfg → Option (List RV)) (a : (Int × Int)) (b : (Int × Int)) (x : (Int × Int)) : go Tryz.prog ft tys envTd0 talo_nt k 4000 (start 36 [.d tG a, .d tG b, .d tG x]) (.node 0) = talo_t k a b x := (go2_eq _ _ _ _ _ _ _ _ _).symm.trans (show go2 Tryz.prog ft tys envTd0 talo_nt k 4000 (start 36 [.d tG a, .d tG b, .d tG x]) (.node 0) = talo_t k a b x by kernel_rfl)
theorem talo_s (a : (Int × Int)) (b : (Int × Int)) (x : (Int × Int)) {rX : List RV} (hX : ∃ nX, talo_t (talo_C.k nX) a b x = some rX) : talo_C.Res 36 [.d tG a, .d tG b, .d tG x] rX := by
  obtain ⟨nX, hX⟩ := hX
  exact ⟨nX, (talo_eq _ a b x).trans hX⟩
def ualo_nt : NT := []
noncomputable def ualo_C : Ctx := ⟨Tryz.prog, ft, tys, envTd0, ualo_nt⟩
noncomputable def ualo_t (_k : Nat → Cfg → Option (List RV)) (a : (Int × Int)) (b : (Int × Int)) (x : (Int × Int)) : Option (List RV) := some [RV.d (.int .i64) (IntKind.i64.wrap ((IntKind.i64.wrap ((IntKind.i64.wrap (x.1 - a.1)) * (IntKind.i64.wrap (b.1 - a.1)))) + (IntKind.i64.wrap ((IntKind.i64.wrap (x.2 - a.2)) * (IntKind.i64.wrap (b.2 - a.2))))))]
theorem ualo_eq (k : Nat → Cfg → Option (List RV)) (a : (Int × Int)) (b : (Int × Int)) (x : (Int × Int)) : go Tryz.prog ft tys envTd0 ualo_nt k 4000 (start 38 [.d tG a, .d tG b, .d tG x]) (.node 0) = ualo_t k a b x := (go2_eq _ _ _ _ _ _ _ _ _).symm.trans (show go2 Tryz.prog ft tys envTd0 ualo_nt k 4000 (start 38 [.d tG a, .d tG b, .d tG x]) (.node 0) = ualo_t k a b x by kernel_rfl)
theorem ualo_s (a : (Int × Int)) (b : (Int × Int)) (x : (Int × Int)) {rX : List RV} (hX : ∃ nX, ualo_t (ualo_C.k nX) a b x = some rX) : ualo_C.Res 38 [.d tG a, .d tG b, .d tG x] rX := by
  obtain ⟨nX, hX⟩ := hX
  exact ⟨nX, (ualo_eq _ a b x).trans hX⟩
theorem tgood_loop (p : List (Int × Int)) (hl : p.length ≤ 1000000000) : ∀ (j i : Nat), i + j = p.length → tgood_C.Runs 6 (tgood_h96_6 p (i : Int)) [.d .bool (!((p.drop i).any farV))] := by
  intro j
  induction j with
  | zero =>
    intro i hi
    refine tgood_h96_6_s _ _ ⟨0, ?_⟩
    unfold tgood_h96_6_t
    rw [ge_dec (by omega), drop_end (by omega)]
    rfl
  | succ j ih =>
    intro i hi
    have hil : i < p.length := by omega
    obtain ⟨q, hq⟩ := ih (i + 1) (by omega)
    refine tgood_h96_6_s _ _ ⟨q, ?_⟩
    unfold tgood_h96_6_t
    rw [lt_dec hil, getI_nat, List.getElem?_eq_getElem hil, drop_get hil, wrapS (by omega)]
    dsimp only
    rw [dT (show farP [p[i].1, p[i].2] by show 2 ≤ 1000000000; decide), List.any_cons, show farV p[i] = farL [p[i].1, p[i].2] from rfl]
    cases farL [p[i].1, p[i].2]
    · exact hq
    · rw [dT (show (i : Int) ≥ 0 by omega)]
      rfl
theorem tgood_con (p : List ((Int × Int))) (h : farG p) : Con Tryz.prog 34 [.d (.sl tG) p] [.d .bool (goodB p)] := by
  refine Ctx.Res.con (C := tgood_C) (ctx_ok envTd0_ok) ?_ (fn := Tryz.f34) (by kernel_rfl) (by kernel_rfl)
  obtain ⟨q, hq⟩ := tgood_loop p h p.length 0 (by omega)
  refine tgood_s _ ⟨q, ?_⟩
  unfold tgood_t goodB
  cases decide ((p.length : Int) ≤ 20000)
  · rfl
  · exact hq
theorem upath_loop (p : List (Int × Int)) (hl : p.length ≤ 1000000000) : ∀ (j i : Nat), i + j = p.length → upath_C.Runs 6 (upath_h6 p (i : Int)) [.d .bool (decide ((p.length : Int) ≤ 20000) && !((p.drop i).any farV))] := by
  intro j
  induction j with
  | zero =>
    intro i hi
    refine upath_h6_s _ _ ⟨0, ?_⟩
    unfold upath_h6_t
    rw [ge_dec (by omega), drop_end (by omega)]
    dsimp only
    rw [show ([] : List (Int × Int)).any farV = false from rfl, Bool.not_false, Bool.and_true]
  | succ j ih =>
    intro i hi
    have hil : i < p.length := by omega
    obtain ⟨q, hq⟩ := ih (i + 1) (by omega)
    refine upath_h6_s _ _ ⟨q, ?_⟩
    unfold upath_h6_t
    rw [lt_dec hil, getI_nat, List.getElem?_eq_getElem hil, drop_get hil, wrapS (by omega)]
    dsimp only
    have e : insB p[i] = !(farV p[i]) := by
      unfold insB farV farL
      simp only [List.any_cons, List.any_nil, Bool.or_false]
      cases farI p[i].1 <;> rfl
    rw [List.any_cons, e]
    cases farV p[i]
    · exact hq
    · simp
theorem upath_con (p : List ((Int × Int))) (h : farG p) : Con Tryz.prog 37 [.d (.sl tG) p] [.d .bool (goodB p)] := by
  refine Ctx.Res.con (C := upath_C) (ctx_ok envTd0_ok) ?_ (fn := Tryz.f37) (by kernel_rfl) (by kernel_rfl)
  obtain ⟨q, hq⟩ := upath_loop p h p.length 0 (by omega)
  exact upath_s _ ⟨q, hq⟩
theorem talo_con (a : (Int × Int)) (b : (Int × Int)) (x : (Int × Int)) : Con Tryz.prog 36 [.d tG a, .d tG b, .d tG x] [.d (.int .i64) (aloF a b x)] := by
  refine Ctx.Res.con (C := talo_C) (ctx_ok envTd0_ok) (talo_s _ _ _ ⟨0, ?_⟩) (fn := Tryz.f36) (by kernel_rfl) (by kernel_rfl)
  rfl
theorem ualo_con (a : (Int × Int)) (b : (Int × Int)) (x : (Int × Int)) : Con Tryz.prog 38 [.d tG a, .d tG b, .d tG x] [.d (.int .i64) (aloF a b x)] := by
  refine Ctx.Res.con (C := ualo_C) (ctx_ok envTd0_ok) (ualo_s _ _ _ ⟨0, ?_⟩) (fn := Tryz.f38) (by kernel_rfl) (by kernel_rfl)
  rfl
def ton_tp : Spec := { keep := true, tame := true, run := fun _ args k => match args with
  | [.d (.st (.pair (.int .i64) (.int .i64))) a, .d (.st (.pair (.int .i64) (.int .i64))) b, .d (.st (.pair (.int .i64) (.int .i64))) x] => k [RV.d .bool (onB a b x)]
  | _ => none }
theorem ton_tpec : callable Tryz.prog 8 = true ∧ SpecOk Tryz.prog 8 ton_tp ∧ ∀ g, ton_tp.mut_ = some g → MCon Tryz.prog 8 g := by
  refine ⟨by kernel_rfl, fun R args k r h => ?_, fun g h => by cases h⟩
  unfold ton_tp at h
  dsimp only at h
  split at h <;> try (cases h; done)
  exact ⟨_, h, ton_con _ _ _ ⟩

def uon_tp : Spec := { keep := true, tame := true, run := fun _ args k => match args with
  | [.d (.st (.pair (.int .i64) (.int .i64))) a, .d (.st (.pair (.int .i64) (.int .i64))) b, .d (.st (.pair (.int .i64) (.int .i64))) x] => k [RV.d .bool (onB a b x)]
  | _ => none }
theorem uon_tpec : callable Tryz.prog 9 = true ∧ SpecOk Tryz.prog 9 uon_tp ∧ ∀ g, uon_tp.mut_ = some g → MCon Tryz.prog 9 g := by
  refine ⟨by kernel_rfl, fun R args k r h => ?_, fun g h => by cases h⟩
  unfold uon_tp at h
  dsimp only at h
  split at h <;> try (cases h; done)
  exact ⟨_, h, uon_con _ _ _ ⟩

noncomputable def tend_tp : Spec := { keep := true, tame := true, run := fun _ args k => match args with
  | [.d (.sl (.st (.pair (.int .i64) (.int .i64)))) p, .d (.int .i64) i] => match decide (endP p i) with
    | true => k [RV.d tG (hid (atG p i)), RV.d tG (hid (atG p (nxG p i)))]
    | false => none
  | _ => none }
theorem tend_tpec : callable Tryz.prog 35 = true ∧ SpecOk Tryz.prog 35 tend_tp ∧ ∀ g, tend_tp.mut_ = some g → MCon Tryz.prog 35 g := by
  refine ⟨by kernel_rfl, fun R args k r h => ?_, fun g h => by cases h⟩
  unfold tend_tp at h
  dsimp only at h
  split at h <;> try (cases h; done)
  split at h <;> try (cases h; done)
  rename_i hd
  simp only [hid_eq] at h
  exact ⟨_, h, tend_con _ _ (of_decide_eq_true hd)⟩

def tgood_sp : Spec := { keep := true, run := fun _ args k => match args with
  | [.d (.sl (.st (.pair (.int .i64) (.int .i64)))) p] => match decide (farG p) with
    | true => k [RV.d .bool (goodB p)]
    | false => none
  | _ => none }
theorem tgood_spec : callable Tryz.prog 34 = true ∧ SpecOk Tryz.prog 34 tgood_sp ∧ ∀ g, tgood_sp.mut_ = some g → MCon Tryz.prog 34 g := by
  refine ⟨by kernel_rfl, fun R args k r h => ?_, fun g h => by simp [tgood_sp] at h⟩
  unfold tgood_sp at h
  dsimp only at h
  split at h <;> try (cases h; done)
  split at h <;> try (cases h; done)
  rename_i hd
  exact ⟨_, h, tgood_con _ (of_decide_eq_true hd)⟩

def upath_sp : Spec := { keep := true, run := fun _ args k => match args with
  | [.d (.sl (.st (.pair (.int .i64) (.int .i64)))) p] => match decide (farG p) with
    | true => k [RV.d .bool (goodB p)]
    | false => none
  | _ => none }
theorem upath_spec : callable Tryz.prog 37 = true ∧ SpecOk Tryz.prog 37 upath_sp ∧ ∀ g, upath_sp.mut_ = some g → MCon Tryz.prog 37 g := by
  refine ⟨by kernel_rfl, fun R args k r h => ?_, fun g h => by simp [upath_sp] at h⟩
  unfold upath_sp at h
  dsimp only at h
  split at h <;> try (cases h; done)
  split at h <;> try (cases h; done)
  rename_i hd
  exact ⟨_, h, upath_con _ (of_decide_eq_true hd)⟩

def talo_tp : Spec := { keep := true, tame := true, run := fun _ args k => match args with
  | [.d (.st (.pair (.int .i64) (.int .i64))) a, .d (.st (.pair (.int .i64) (.int .i64))) b, .d (.st (.pair (.int .i64) (.int .i64))) x] => k [RV.d (.int .i64) (aloF a b x)]
  | _ => none }
theorem talo_tpec : callable Tryz.prog 36 = true ∧ SpecOk Tryz.prog 36 talo_tp ∧ ∀ g, talo_tp.mut_ = some g → MCon Tryz.prog 36 g := by
  refine ⟨by kernel_rfl, fun R args k r h => ?_, fun g h => by cases h⟩
  unfold talo_tp at h
  dsimp only at h
  split at h <;> try (cases h; done)
  exact ⟨_, h, talo_con _ _ _ ⟩

def ualo_tp : Spec := { keep := true, tame := true, run := fun _ args k => match args with
  | [.d (.st (.pair (.int .i64) (.int .i64))) a, .d (.st (.pair (.int .i64) (.int .i64))) b, .d (.st (.pair (.int .i64) (.int .i64))) x] => k [RV.d (.int .i64) (aloF a b x)]
  | _ => none }
theorem ualo_tpec : callable Tryz.prog 38 = true ∧ SpecOk Tryz.prog 38 ualo_tp ∧ ∀ g, ualo_tp.mut_ = some g → MCon Tryz.prog 38 g := by
  refine ⟨by kernel_rfl, fun R args k r h => ?_, fun g h => by cases h⟩
  unfold ualo_tp at h
  dsimp only at h
  split at h <;> try (cases h; done)
  exact ⟨_, h, ualo_con _ _ _ ⟩

noncomputable def envTd2 : Env := [(8, ton_tp), (9, uon_tp), (35, tend_tp), (34, tgood_sp), (37, upath_sp), (36, talo_tp), (38, ualo_tp)]
theorem envTd2_ok : EnvAll Tryz.prog envTd2 := ⟨ton_tpec, uon_tpec, tend_tpec, tgood_spec, upath_spec, talo_tpec, ualo_tpec, trivial⟩
def tval_nt : NT := [((10, 14), { keep := [0, 1, 17, 18, 19], hl := 0 })]
noncomputable def tval_C : Ctx := ⟨Tryz.prog, ft, tys, envTd2, tval_nt⟩
def tval_h14 (p : List ((Int × Int))) (l : List (Int × ((Int × Int)) × (Int × Int))) (s19 : Int) : Cfg := ⟨10, [.blk 0, .seq 57], [(0, .d (.sl tG) p), (1, .d (.sl (.st (.pair (.int .i64) (.pair tG tG)))) l), (17, .d (.sl (.st (.pair (.int .i64) (.pair tG tG)))) l), (18, SI (l.length : Int)), (19, SI s19)], [], 0, []⟩
noncomputable def tval_t (k : Nat → Cfg → Option (List RV)) (p : List ((Int × Int))) (l : List (Int × ((Int × Int)) × (Int × Int))) : Option (List RV) := match decide (farG p) with | true => (match !(goodB p) with | true => some [RV.d .bool false] | false => (match decide ((p.length : Int) < 2) with | true => some [RV.d .bool false] | false => k 14 (tval_h14 p l 0))) | false => none
theorem tval_eq (k : Nat → Cfg → Option (List RV)) (p : List ((Int × Int))) (l : List (Int × ((Int × Int)) × (Int × Int))) : go Tryz.prog ft tys envTd2 tval_nt k 4000 (start 10 [.d (.sl tG) p, .d (.sl (.st (.pair (.int .i64) (.pair tG tG)))) l]) (.node 0) = tval_t k p l := (go2_eq _ _ _ _ _ _ _ _ _).symm.trans (show go2 Tryz.prog ft tys envTd2 tval_nt k 4000 (start 10 [.d (.sl tG) p, .d (.sl (.st (.pair (.int .i64) (.pair tG tG)))) l]) (.node 0) = tval_t k p l by kernel_rfl)
theorem tval_s (p : List ((Int × Int))) (l : List (Int × ((Int × Int)) × (Int × Int))) {rX : List RV} (hX : ∃ nX, tval_t (tval_C.k nX) p l = some rX) : tval_C.Res 10 [.d (.sl tG) p, .d (.sl (.st (.pair (.int .i64) (.pair tG tG)))) l] rX := by
  obtain ⟨nX, hX⟩ := hX
  exact ⟨nX, (tval_eq _ p l).trans hX⟩
noncomputable def tval_h14_t (k : Nat → Cfg → Option (List RV)) (p : List ((Int × Int))) (l : List (Int × ((Int × Int)) × (Int × Int))) (s19 : Int) : Option (List RV) := match decide (s19 < (l.length : Int)) with | true => (match getI l s19 with | some x1 => (match decide (x1.1 < 0) with | true => some [RV.d .bool false] | false => (match decide (x1.1 ≥ (p.length : Int)) with | true => some [RV.d .bool false] | false => (match decide (endP p x1.1) with | true => (match !(onB (hid (atG p x1.1)) (hid (atG p (nxG p x1.1))) x1.2.1) with | true => some [RV.d .bool false] | false => (match !(onB (hid (atG p x1.1)) (hid (atG p (nxG p x1.1))) x1.2.2) with | true => some [RV.d .bool false] | false => (match decide ((aloF (hid (atG p x1.1)) (hid (atG p (nxG p x1.1))) x1.2.1) ≥ (aloF (hid (atG p x1.1)) (hid (atG p (nxG p x1.1))) x1.2.2)) with | true => some [RV.d .bool false] | false => (match s19 == 0 with | true => k 14 (tval_h14 p l (IntKind.i64.wrap (s19 + 1))) | false => (match getI l (IntKind.i64.wrap (s19 - 1)) with | some x2 => (match decide (x2.1 < x1.1) with | true => k 14 (tval_h14 p l (IntKind.i64.wrap (s19 + 1))) | false => (match getI l (IntKind.i64.wrap (s19 - 1)) with | some x3 => (match decide (x3.1 > x1.1) with | true => some [RV.d .bool false] | false => (match getI l (IntKind.i64.wrap (s19 - 1)) with | some x4 => (match decide ((aloF (hid (atG p x1.1)) (hid (atG p (nxG p x1.1))) x4.2.2) ≥ (aloF (hid (atG p x1.1)) (hid (atG p (nxG p x1.1))) x1.2.1)) with | true => some [RV.d .bool false] | false => k 14 (tval_h14 p l (IntKind.i64.wrap (s19 + 1)))) | none => none)) | none => none)) | none => none))))) | false => none))) | none => none) | false => some [RV.d .bool true]
theorem tval_h14_eq (k : Nat → Cfg → Option (List RV)) (p : List ((Int × Int))) (l : List (Int × ((Int × Int)) × (Int × Int))) (s19 : Int) : go Tryz.prog ft tys envTd2 tval_nt k 4000 { tval_h14 p l s19 with K := .lp 14 :: (tval_h14 p l s19).K } (.node 15) = tval_h14_t k p l s19 := (go2_eq _ _ _ _ _ _ _ _ _).symm.trans (show go2 Tryz.prog ft tys envTd2 tval_nt k 4000 { tval_h14 p l s19 with K := .lp 14 :: (tval_h14 p l s19).K } (.node 15) = tval_h14_t k p l s19 by kernel_rfl)
theorem tval_h14_s (p : List ((Int × Int))) (l : List (Int × ((Int × Int)) × (Int × Int))) (s19 : Int) {rX : List RV} (hX : ∃ nX, tval_h14_t (tval_C.k nX) p l s19 = some rX) : tval_C.Runs 14 (tval_h14 p l s19) rX := by
  obtain ⟨nX, hX⟩ := hX
  exact ⟨nX + 1, (tval_h14_eq _ p l s19).trans hX⟩
def prevT (l : List TB) : Nat → Option TB
  | 0 => none
  | i + 1 => l[i]?
theorem val_step {p : List (Int × Int)} {l : List TB} {i : Nat} (h : i < l.length) : valG p (prevT l i) (l.drop i) = (tabOk p l[i] && ((match prevT l i with | none => true | some s => nextOk p s l[i]) && valG p (prevT l (i + 1)) (l.drop (i + 1)))) := by
  rw [drop_get h]
  have e : prevT l (i + 1) = some l[i] := List.getElem?_eq_getElem h
  rw [e]
  cases i with
  | zero => simp [prevT, valG]
  | succ i =>
    have e2 : prevT l (i + 1) = some l[i] := List.getElem?_eq_getElem (by omega)
    rw [e2]
    rfl
theorem tval_loop (p : List (Int × Int)) (l : List TB) (hp : p.length ≤ 1000000000) (hl : l.length ≤ 1000000000) : ∀ (j i : Nat), i + j = l.length → tval_C.Runs 14 (tval_h14 p l (i : Int)) [.d .bool (valG p (prevT l i) (l.drop i))] := by
  intro j
  induction j with
  | zero =>
    intro i hi
    refine tval_h14_s _ _ _ ⟨0, ?_⟩
    unfold tval_h14_t
    rw [ge_dec (by omega), drop_end (by omega)]
    cases prevT l i <;> rfl
  | succ j ih =>
    intro i hi
    have hil : i < l.length := by omega
    obtain ⟨q, hq⟩ := ih (i + 1) (by omega)
    refine tval_h14_s _ _ _ ⟨q, ?_⟩
    unfold tval_h14_t
    rw [lt_dec hil, getI_nat, List.getElem?_eq_getElem hil, val_step hil]
    dsimp only
    unfold tabOk
    simp only [hid_eq]
    cases h1 : decide (l[i].1 < 0)
    · cases h2 : decide (l[i].1 ≥ (p.length : Int))
      · rw [dT (show endP p l[i].1 from ⟨by have := of_decide_eq_false h1; omega, by have := of_decide_eq_false h2; omega, hp⟩)]
        dsimp only
        cases onB (atG p l[i].1) (atG p (nxG p l[i].1)) l[i].2.1
        · rfl
        · cases onB (atG p l[i].1) (atG p (nxG p l[i].1)) l[i].2.2
          · rfl
          · rw [show aloT p l[i] l[i].2.1 = aloF (atG p l[i].1) (atG p (nxG p l[i].1)) l[i].2.1 from rfl, show aloT p l[i] l[i].2.2 = aloF (atG p l[i].1) (atG p (nxG p l[i].1)) l[i].2.2 from rfl]
            cases decide (aloF (atG p l[i].1) (atG p (nxG p l[i].1)) l[i].2.1 ≥ aloF (atG p l[i].1) (atG p (nxG p l[i].1)) l[i].2.2)
            · cases i with
              | zero => exact hq
              | succ i =>
                have e0 : (((i + 1 : Nat) : Int) == 0) = false := by simp; omega
                have e1 : IntKind.i64.wrap (((i + 1 : Nat) : Int) - 1) = (i : Int) := by rw [wrap64 (by omega) (by omega)]; omega
                have e2 : prevT l (i + 1) = some l[i] := List.getElem?_eq_getElem (by omega)
                have e3 : l[i]? = some l[i] := List.getElem?_eq_getElem (by omega)
                rw [wrapS (k := i + 1) (by omega)]
                simp only [e0, e1, getI_nat, e2, e3]
                unfold nextOk
                cases decide (l[i].1 < l[i + 1].1)
                · cases decide (l[i].1 > l[i + 1].1)
                  · rw [show aloT p l[i + 1] l[i].2.2 = aloF (atG p l[i + 1].1) (atG p (nxG p l[i + 1].1)) l[i].2.2 from rfl, show aloT p l[i + 1] l[i + 1].2.1 = aloF (atG p l[i + 1].1) (atG p (nxG p l[i + 1].1)) l[i + 1].2.1 from rfl]
                    cases decide (aloF (atG p l[i + 1].1) (atG p (nxG p l[i + 1].1)) l[i].2.2 ≥ aloF (atG p l[i + 1].1) (atG p (nxG p l[i + 1].1)) l[i + 1].2.1)
                    · exact hq
                    · rfl
                  · rfl
                · exact hq
            · rfl
      · rfl
    · rfl
theorem tval_con (p : List ((Int × Int))) (l : List (Int × ((Int × Int)) × (Int × Int))) (h : valP p l) : Con Tryz.prog 10 [.d (.sl tG) p, .d (.sl (.st (.pair (.int .i64) (.pair tG tG)))) l] [.d .bool (valF p l)] := by
  refine Ctx.Res.con (C := tval_C) (ctx_ok envTd2_ok) ?_ (fn := Tryz.f10) (by kernel_rfl) (by kernel_rfl)
  obtain ⟨hp, hl⟩ := h
  obtain ⟨q, hq⟩ := tval_loop p l hp hl l.length 0 (by omega)
  refine tval_s _ _ ⟨q, ?_⟩
  unfold tval_t valF
  rw [dT hp]
  dsimp only
  cases goodB p
  · rfl
  · cases decide ((p.length : Int) < 2)
    · exact hq
    · rfl
theorem at_ok {p : List (Int × Int)} {i : Int} (h : endP p i) : getI p i = some (atG p i) := by
  obtain ⟨h0, h1, h2⟩ := h
  obtain ⟨k, rfl⟩ := Int.eq_ofNat_of_zero_le h0
  have hk : k < p.length := by omega
  unfold atG
  rw [getI_nat, toNat_nat, List.getElem?_eq_getElem hk, List.getD_eq_getElem?_getD, List.getElem?_eq_getElem hk, Option.getD_some]
theorem nx_ok {p : List (Int × Int)} {i : Int} (h : endP p i) : Int.tmod (IntKind.i64.wrap (i + 1)) (p.length : Int) = nxG p i ∧ getI p (nxG p i) = some (atG p (nxG p i)) := by
  obtain ⟨h0, h1, h2⟩ := h
  have e : 0 ≤ nxG p i ∧ nxG p i < (p.length : Int) := ⟨Int.emod_nonneg _ (by omega), Int.emod_lt_of_pos _ (by omega)⟩
  refine ⟨?_, at_ok ⟨e.1, e.2, h2⟩⟩
  rw [wrap64 (by omega) (by omega), tmodP (by omega)]
  rfl
end Go.Proofs.YtcaiedfkohigjaaGreat
/- awake of the statements about tabs. -/
namespace Go.Proofs.YtcaiedfkohigjaaGreat
open Go.RowKit
def halfF (s o : Int) : Int := Int.fdiv (IntKind.i64.wrap ((IntKind.i64.wrap ((IntKind.i64.wrap (s * 2 ^ (min (20 : Int).toNat 64))) + o)) + 1048576)) (2 ^ (min (21 : Int).toNat 64))
def tprt_up : Spec := { keep := true, tame := true, run := fun _ args k => match args with
  | [.d (.int .i64) d, .d (.int .i64) w, .d (.int .i64) n] => match decide (partP d w n) with
    | true => k [RV.d (.int .i64) (partF d w n)]
    | false => none
  | _ => none }
theorem tprt_upec : callable Tryz.prog 75 = true ∧ SpecOk Tryz.prog 75 tprt_up ∧ ∀ g, tprt_up.mut_ = some g → MCon Tryz.prog 75 g := by
  refine ⟨by kernel_rfl, fun R args k r h => ?_, fun g h => by cases h⟩
  unfold tprt_up at h
  dsimp only at h
  split at h <;> try (cases h; done)
  split at h <;> try (cases h; done)
  rename_i hd
  exact ⟨_, h, tprt_con _ _ _ (of_decide_eq_true hd)⟩

def tend_up : Spec := { keep := true, tame := true, run := fun _ args k => match args with
  | [.d (.sl (.st (.pair (.int .i64) (.int .i64)))) p, .d (.int .i64) i] => match decide (endP p i) with
    | true => k [RV.d tG (atG p i), RV.d tG (atG p (nxG p i))]
    | false => none
  | _ => none }
theorem tend_upec : callable Tryz.prog 35 = true ∧ SpecOk Tryz.prog 35 tend_up ∧ ∀ g, tend_up.mut_ = some g → MCon Tryz.prog 35 g := by
  refine ⟨by kernel_rfl, fun R args k r h => ?_, fun g h => by cases h⟩
  unfold tend_up at h
  dsimp only at h
  split at h <;> try (cases h; done)
  split at h <;> try (cases h; done)
  rename_i hd
  exact ⟨_, h, tend_con _ _ (of_decide_eq_true hd)⟩

def ton_up : Spec := { keep := true, tame := true, run := fun _ args k => match args with
  | [.d (.st (.pair (.int .i64) (.int .i64))) a, .d (.st (.pair (.int .i64) (.int .i64))) b, .d (.st (.pair (.int .i64) (.int .i64))) x] => k [RV.d .bool (onB a b x)]
  | _ => none }
theorem ton_upec : callable Tryz.prog 8 = true ∧ SpecOk Tryz.prog 8 ton_up ∧ ∀ g, ton_up.mut_ = some g → MCon Tryz.prog 8 g := by
  refine ⟨by kernel_rfl, fun R args k r h => ?_, fun g h => by cases h⟩
  unfold ton_up at h
  dsimp only at h
  split at h <;> try (cases h; done)
  exact ⟨_, h, ton_con _ _ _ ⟩

def envTe0 : Env := [(75, tprt_up), (35, tend_up), (8, ton_up)]
theorem envTe0_ok : EnvAll Tryz.prog envTe0 := ⟨tprt_upec, tend_upec, ton_upec, trivial⟩
def thalf_nt : NT := []
noncomputable def thalf_C : Ctx := ⟨Tryz.prog, ft, tys, envTe0, thalf_nt⟩
noncomputable def thalf_t (_k : Nat → Cfg → Option (List RV)) (s : Int) (o : Int) : Option (List RV) := match decide (20 < (0 : Int)) with | true => none | false => (match decide (21 < (0 : Int)) with | true => none | false => some [RV.d (.int .i64) (Int.fdiv (IntKind.i64.wrap ((IntKind.i64.wrap ((IntKind.i64.wrap (s * 2 ^ (min (20 : Int).toNat 64))) + o)) + 1048576)) (2 ^ (min (21 : Int).toNat 64)))])
theorem thalf_eq (k : Nat → Cfg → Option (List RV)) (s : Int) (o : Int) : go Tryz.prog ft tys envTe0 thalf_nt k 4000 (start 76 [SI s, SI o]) (.node 0) = thalf_t k s o := (go2_eq _ _ _ _ _ _ _ _ _).symm.trans (show go2 Tryz.prog ft tys envTe0 thalf_nt k 4000 (start 76 [SI s, SI o]) (.node 0) = thalf_t k s o by kernel_rfl)
theorem thalf_s (s : Int) (o : Int) {rX : List RV} (hX : ∃ nX, thalf_t (thalf_C.k nX) s o = some rX) : thalf_C.Res 76 [SI s, SI o] rX := by
  obtain ⟨nX, hX⟩ := hX
  exact ⟨nX, (thalf_eq _ s o).trans hX⟩
theorem thalf_con (s : Int) (o : Int) : Con Tryz.prog 76 [.d (.int .i64) s, .d (.int .i64) o] [.d (.int .i64) (halfF s o)] := by
  refine Ctx.Res.con (C := thalf_C) (ctx_ok envTe0_ok) (thalf_s _ _ ⟨0, ?_⟩) (fn := Tryz.f76) (by kernel_rfl) (by kernel_rfl)
  rfl
def thalf_up : Spec := { keep := true, tame := true, run := fun _ args k => match args with
  | [.d (.int .i64) s, .d (.int .i64) o] => k [RV.d (.int .i64) (halfF s o)]
  | _ => none }
theorem thalf_upec : callable Tryz.prog 76 = true ∧ SpecOk Tryz.prog 76 thalf_up ∧ ∀ g, thalf_up.mut_ = some g → MCon Tryz.prog 76 g := by
  refine ⟨by kernel_rfl, fun R args k r h => ?_, fun g h => by cases h⟩
  unfold thalf_up at h
  dsimp only at h
  split at h <;> try (cases h; done)
  exact ⟨_, h, thalf_con _ _ ⟩

def envTe1 : Env := [(75, tprt_up), (35, tend_up), (8, ton_up), (76, thalf_up), (34, tgood_sp)]
theorem envTe1_ok : EnvAll Tryz.prog envTe1 := ⟨tprt_upec, tend_upec, ton_upec, thalf_upec, tgood_spec, trivial⟩
noncomputable def ctxTe : Ctx := ⟨Tryz.prog, ft, tys, envTe1, []⟩
end Go.Proofs.YtcaiedfkohigjaaGreat
/- awake of the statements about tabs returns true. -/
namespace Go.Proofs.YtcaiedfkohigjaaGreat
open Go.RowKit
def exP : List (Int × Int) := [(0, 0), (100, 0), (100, 40), (0, 40)]
set_option maxRecDepth 1000000 in
theorem plex220 : Con Tryz.prog 21 [.d (.sl tG) exP, .d (.int .i64) (2 : Int), .d (.int .i64) (20 : Int)] [.d (.sl (.st (.pair (.int .i64) (.pair tG tG)))) [(0, ((39, 0), (61, 0))), (2, ((61, 40), (39, 40)))], .d (.int .i64) (0 : Int)] := Ctx.Res.con (C := ctxTe) (ctx_ok envTe1_ok) (Ctx.Res.ofK ⟨300, by kernel_rfl⟩) (fn := Tryz.f21) (by kernel_rfl) (by kernel_rfl)
set_option maxRecDepth 1000000 in
theorem plex320 : Con Tryz.prog 21 [.d (.sl tG) exP, .d (.int .i64) (3 : Int), .d (.int .i64) (20 : Int)] [.d (.sl (.st (.pair (.int .i64) (.pair tG tG)))) [(0, ((39, 0), (61, 0))), (1, ((100, 9), (100, 31))), (2, ((61, 40), (39, 40)))], .d (.int .i64) (0 : Int)] := Ctx.Res.con (C := ctxTe) (ctx_ok envTe1_ok) (Ctx.Res.ofK ⟨300, by kernel_rfl⟩) (fn := Tryz.f21) (by kernel_rfl) (by kernel_rfl)
set_option maxRecDepth 1000000 in
theorem plex340 : Con Tryz.prog 21 [.d (.sl tG) exP, .d (.int .i64) (3 : Int), .d (.int .i64) (40 : Int)] [.d (.sl (.st (.pair (.int .i64) (.pair tG tG)))) [], .d (.int .i64) (16 : Int)] := Ctx.Res.con (C := ctxTe) (ctx_ok envTe1_ok) (Ctx.Res.ofK ⟨300, by kernel_rfl⟩) (fn := Tryz.f21) (by kernel_rfl) (by kernel_rfl)
def plex_sp : Spec := { keep := false, run := fun _ args k => match args with
  | [.d (.sl (.st (.pair (.int .i64) (.int .i64)))) p, .d (.int .i64) n, .d (.int .i64) w] => match decide (p = exP ∧ n = 2 ∧ w = 20) with
    | true => k [.d (.sl (.st (.pair (.int .i64) (.pair tG tG)))) [(0, ((39, 0), (61, 0))), (2, ((61, 40), (39, 40)))], .d (.int .i64) (0 : Int)]
    | false => match decide (p = exP ∧ n = 3 ∧ w = 20) with
    | true => k [.d (.sl (.st (.pair (.int .i64) (.pair tG tG)))) [(0, ((39, 0), (61, 0))), (1, ((100, 9), (100, 31))), (2, ((61, 40), (39, 40)))], .d (.int .i64) (0 : Int)]
    | false => match decide (p = exP ∧ n = 3 ∧ w = 40) with
    | true => k [.d (.sl (.st (.pair (.int .i64) (.pair tG tG)))) [], .d (.int .i64) (16 : Int)]
    | false => none
  | _ => none }
theorem plex_spec : callable Tryz.prog 21 = true ∧ SpecOk Tryz.prog 21 plex_sp ∧ ∀ g, plex_sp.mut_ = some g → MCon Tryz.prog 21 g := by
  refine ⟨by kernel_rfl, fun R args k r h => ?_, fun g h => by simp [plex_sp] at h⟩
  unfold plex_sp at h
  dsimp only at h
  split at h <;> try (cases h; done)
  split at h
  · rename_i hd
    obtain ⟨rfl, rfl, rfl⟩ := of_decide_eq_true hd
    exact ⟨_, h, plex220⟩
  split at h
  · rename_i hd
    obtain ⟨rfl, rfl, rfl⟩ := of_decide_eq_true hd
    exact ⟨_, h, plex320⟩
  split at h
  · rename_i hd
    obtain ⟨rfl, rfl, rfl⟩ := of_decide_eq_true hd
    exact ⟨_, h, plex340⟩
  cases h
theorem seg_on {a b x : Rat × Rat} (h0 : decide (cgR a b x x = false) = true) (h1 : decide (tosR a b x = 0) = true) (h3 : decide (0 ≤ tosR x x a) = true) (h4 : decide (0 ≤ tosR x x b) = true) : segR a b x x = 0 := by
  have h0 := of_decide_eq_true h0
  have h1 := of_decide_eq_true h1
  have h3 := of_decide_eq_true h3
  have h4 := of_decide_eq_true h4
  have m1 : minR 0 0 = 0 := by
    unfold minR
    rw [dF (show ¬ (0 : Rat) < 0 by grind)]
    rfl
  have m2 : ∀ q : Rat, 0 ≤ q → minR 0 q = 0 := fun q hq => by
    unfold minR
    rw [dF (show ¬ q < 0 by grind)]
    rfl
  unfold segR
  rw [h0]
  simp only [cond_false]
  rw [h1, m1, m2 _ h3, m2 _ h4]
theorem on_x {a b x : Int × Int} (hf : farL [a.1, a.2, b.1, b.2, x.1, x.2] = false) (h0 : decide (cgR (vecR a) (vecR b) (vecR x) (vecR x) = false) = true) (h1 : decide (tosR (vecR a) (vecR b) (vecR x) = 0) = true) (h3 : decide (0 ≤ tosR (vecR x) (vecR x) (vecR a)) = true) (h4 : decide (0 ≤ tosR (vecR x) (vecR x) (vecR b)) = true) : onB a b x = true := by
  unfold onB
  rw [hf, seg_on h0 h1 h3 h4]
  decide +kernel
theorem v3 : valF exP [(0, ((39, 0), (61, 0))), (1, ((100, 9), (100, 31))), (2, ((61, 40), (39, 40)))] = true := by
  have f1 : onB (0, 0) (100, 0) (39, 0) = true := on_x (by kernel_rfl) (by kernel_rfl) (by kernel_rfl) (by kernel_rfl) (by kernel_rfl)
  have f2 : onB (0, 0) (100, 0) (61, 0) = true := on_x (by kernel_rfl) (by kernel_rfl) (by kernel_rfl) (by kernel_rfl) (by kernel_rfl)
  have f3 : onB (100, 0) (100, 40) (100, 9) = true := on_x (by kernel_rfl) (by kernel_rfl) (by kernel_rfl) (by kernel_rfl) (by kernel_rfl)
  have f4 : onB (100, 0) (100, 40) (100, 31) = true := on_x (by kernel_rfl) (by kernel_rfl) (by kernel_rfl) (by kernel_rfl) (by kernel_rfl)
  have f5 : onB (100, 40) (0, 40) (61, 40) = true := on_x (by kernel_rfl) (by kernel_rfl) (by kernel_rfl) (by kernel_rfl) (by kernel_rfl)
  have f6 : onB (100, 40) (0, 40) (39, 40) = true := on_x (by kernel_rfl) (by kernel_rfl) (by kernel_rfl) (by kernel_rfl) (by kernel_rfl)
  have g0 : atG exP 0 = (0, 0) := by kernel_rfl
  have g0' : atG exP (nxG exP 0) = (100, 0) := by kernel_rfl
  have g1 : atG exP 1 = (100, 0) := by kernel_rfl
  have g1' : atG exP (nxG exP 1) = (100, 40) := by kernel_rfl
  have g2 : atG exP 2 = (100, 40) := by kernel_rfl
  have g2' : atG exP (nxG exP 2) = (0, 40) := by kernel_rfl
  simp only [valF, valG, tabOk, nextOk, aloT, g0, g0', g1, g1', g2, g2', f1, f2, f3, f4, f5, f6]
  decide +kernel
theorem vaex : Con Tryz.prog 10 [.d (.sl tG) exP, .d (.sl (.st (.pair (.int .i64) (.pair tG tG)))) [(0, ((39, 0), (61, 0))), (1, ((100, 9), (100, 31))), (2, ((61, 40), (39, 40)))]] [.d .bool true] := by
  have h := tval_con exP [(0, ((39, 0), (61, 0))), (1, ((100, 9), (100, 31))), (2, ((61, 40), (39, 40)))] ⟨by show exP.length ≤ 1000000000; decide, by decide⟩
  rw [v3] at h
  exact h
def vaex_sp : Spec := { keep := true, run := fun _ args k => match args with
  | [.d (.sl (.st (.pair (.int .i64) (.int .i64)))) p, .d (.sl (.st (.pair (.int .i64) (.pair (.st (.pair (.int .i64) (.int .i64))) (.st (.pair (.int .i64) (.int .i64))))))) l] => match decide (p = exP ∧ l = [(0, ((39, 0), (61, 0))), (1, ((100, 9), (100, 31))), (2, ((61, 40), (39, 40)))]) with
    | true => k [.d .bool true]
    | false => none
  | _ => none }
theorem vaex_spec : callable Tryz.prog 10 = true ∧ SpecOk Tryz.prog 10 vaex_sp ∧ ∀ g, vaex_sp.mut_ = some g → MCon Tryz.prog 10 g := by
  refine ⟨by kernel_rfl, fun R args k r h => ?_, fun g h => by simp [vaex_sp] at h⟩
  unfold vaex_sp at h
  dsimp only at h
  split at h <;> try (cases h; done)
  split at h <;> try (cases h; done)
  rename_i hd
  obtain ⟨rfl, rfl⟩ := of_decide_eq_true hd
  exact ⟨_, h, vaex⟩
def envTe2 : Env := [(21, plex_sp), (10, vaex_sp), (75, tprt_up), (35, tend_up), (8, ton_up), (76, thalf_up), (34, tgood_sp)]
theorem envTe2_ok : EnvAll Tryz.prog envTe2 := ⟨plex_spec, vaex_spec, tprt_upec, tend_upec, ton_upec, thalf_upec, tgood_spec, trivial⟩
noncomputable def ctxTf : Ctx := ⟨Tryz.prog, ft, tys, envTe2, []⟩
set_option maxRecDepth 1000000 in
theorem tawk_con : Con Tryz.prog 7 [] [.d .bool true] := Ctx.Res.con (C := ctxTf) (ctx_ok envTe2_ok) (Ctx.Res.ofK ⟨300, by kernel_rfl⟩) (fn := Tryz.f7) (by kernel_rfl) (by kernel_rfl)
end Go.Proofs.YtcaiedfkohigjaaGreat
/- A law's row: its last step; arguments opened. -/
namespace Go.Proofs.YtcaiedfkohigjaaGreat
open Go.ChangeShapes Go.WideShapes Go.ChangeAt Go.WideMaps Go.WideElems Go.RowKit Go.Maps
section
variable {H : Type} {enc : TypeId × Value → H} {P : Program}
/-- The row's last step where the world has only grown. -/
theorem post_of_below {f : Func} {s : ChangeSpec} {apart fresh handsOn again : Bool} {W W' : World} {args : Array Value} {v : Value} {ds gs : List (DataW H)} {before pa pv : List MemPlace}
    (hW : DataW.Whole enc P f.params.toList s.vars apart W args.toList ds gs before)
    (hres : ∀ (b : Nat) (sp : Nat → Bool) (hd : Bool), DataW.TrodAll enc P W' b sp hd f.resultTypes.toList (v.resultList f.resultTypes.size) (s.fn H (ds ++ gs)).results [])
    (hargs : ∀ sp : Nat → Bool, (∀ p ∈ before, sp p.block = true) → DataW.TrodAll enc P W' 0 sp true f.params.toList args.toList (s.fn H (ds ++ gs)).args pa)
    (hvars : ∀ sp : Nat → Bool, (∀ p ∈ before, sp p.block = true) → DataW.TrodVars enc P W' sp s.vars (s.fn H (ds ++ gs)).vars pv)
    (hps : before = pa ++ pv) (hb : Below W.heap.size W W')
    (hok : ∀ (j : Nat) (t : TypeId) (r : Value), f.resultTypes[j]? = some t → (v.resultList f.resultTypes.size)[j]? = some r → Value.okWide P W' .any 0 t r) :
    s.post enc P f apart fresh handsOn again W args v W' := by
  have hlt : ∀ p ∈ before, p.block < W.heap.size := fun p hp => hW.lt p hp
  have hold : ∀ p ∈ before, (fun b => decide (b < W.heap.size)) p.block = true := fun p hp => by simpa using hlt p hp
  refine ⟨ds, gs, before, [], pa, pv, hW, hres _ _ _, hargs _ hold, hvars _ hold, World.keptBut_mono (fun p hp => ⟨hp, ?_⟩) (hb.frame (· ∈ before)), fun _ => ?_⟩
  · rw [hps, List.mem_append] at hp
    exact Or.inr hp
  · obtain ⟨_, _, _, _, _, hz, hn⟩ := hW
    refine ⟨hok, _, _, ([] ++ pa) ++ pv, ⟨[] ++ pa, pv, trodAll_append (hargs _ (fun _ _ => rfl)) (hres _ _ _), hvars _ (fun _ _ => rfl), rfl, ?_, ?_⟩, ?_⟩
    · intro b off hp
      have hin : MemPlace.cell b off ∈ before := by rw [hps]; simpa using hp
      rw [hb.frozen (hlt _ hin)]
      exact hz b off hin
    · intro ha
      have := hn ha
      rw [hps] at this
      simpa using this
    · intro p hp _
      rw [hps]
      simpa using hp
end
theorem laidOut_ : laidOutB Tryz.prog = true := by kernel_rfl
theorem trodAll_stays {H : Type} {enc : TypeId × Value → H} {P : Program} (hl : laidOutB P = true) {W W' : World} {sp : Nat → Bool} : ∀ (ts : List TypeId) (vs : List Value) (ds : List (DataW H)) (ps : List MemPlace),
    (ts.all fun t => P.readableRec t && Nat.ble (t + 1) P.types.size) = true → DataW.TrodAll enc P W 0 (fun _ => true) true ts vs ds ps → (∀ p ∈ ps, W.sameAt W' p) → (∀ p ∈ ps, sp p.block = true) → DataW.TrodAll enc P W' 0 sp true ts vs ds ps
  | [], vs, ds, ps, _, h, _, _ => by obtain ⟨rfl, rfl, rfl⟩ := trodAll_nil h; exact trodAll_mk0
  | t :: ts, vs, ds, ps, ht, h, hs, hp => by
    obtain ⟨v, vs', d, ds', p, q, rfl, rfl, rfl, h0, h1⟩ := trodAll_cons h
    simp only [List.all_cons, Bool.and_eq_true] at ht
    exact trodAll_cons_mk (Trod_stays hl ht.1.1 (Nat.le_of_ble_eq_true ht.1.2) h0 (fun x hx => hs x (List.mem_append_left _ hx)) (fun x hx => hp x (List.mem_append_left _ hx)))
      (trodAll_stays hl ts vs' ds' q ht.2 h1 (fun x hx => hs x (List.mem_append_right _ hx)) (fun x hx => hp x (List.mem_append_right _ hx)))
set_option maxRecDepth 100000 in
/-- A law that returned true and only grew the world meets its row's post. -/
theorem law_post {H : Type} {enc : TypeId × Value → H} {f : Func} {s : ChangeSpec} {apart fresh handsOn again : Bool} {W W' : World} {args : Array Value} {ds : List (DataW H)} {before : List MemPlace}
    (hW : DataW.Whole enc Tryz.prog f.params.toList s.vars apart W args.toList ds [] before) (hv : s.vars = []) (hr : f.resultTypes = #[4]) (hfn : (s.fn H (ds ++ [])).results = [.lit (.bool true)] ∧ (s.fn H (ds ++ [])).args = ds ∧ (s.fn H (ds ++ [])).vars = [])
    (hp : (f.params.toList.all fun t => Tryz.prog.readableRec t && Nat.ble (t + 1) Tryz.prog.types.size) = true) (hb : Below W.heap.size W W') : s.post enc Tryz.prog f apart fresh handsOn again W args (.bool true) W' := by
  have hW' := hW
  obtain ⟨p, q, hA, hV, rfl, hfz, hnd⟩ := hW
  have hq : q = [] := by
    rw [hv] at hV
    exact (trodVars_none hV).2
  subst hq
  have hlt : ∀ x ∈ p, x.block < W.heap.size := fun x hx => hW'.lt x (by simpa using hx)
  refine post_of_below (pa := p) (pv := []) hW' ?_ ?_ ?_ rfl hb ?_
  · intro b sp hd
    rw [hr, hfn.1]
    exact trodAll_mk1 (shut_bool Tryz.underlying4 _)
  · intro sp hsp
    rw [hfn.2.1]
    exact trodAll_stays laidOut_ _ _ _ _ hp hA (fun x hx => hb.same (hlt x hx)) (fun x hx => hsp x (by simpa using hx))
  · intro sp _
    rw [hv, hfn.2.2]
    rfl
  · exact ok_one hr rfl (okWide_bool_mk (P := Tryz.prog) Tryz.underlying4 true)
theorem okWide_arr {P : Program} {w : World} {r : Reach} {base : Nat} {t e : TypeId} {n : Nat} {v : Value} (ht : P.underlying t = some (.array n e)) (h : Value.okWide P w r base t v) : ∃ cs, v = .agg cs ∧ cs.size = P.cellsOf t := by
  simp only [Value.okWide, ht] at h
  obtain ⟨cs, h1, h2, _⟩ := h
  exact ⟨cs, h1, h2⟩
theorem okWide_str {P : Program} {w : World} {r : Reach} {base : Nat} {t : TypeId} {v : Value} (ht : P.underlying t = some .string) (h : Value.okWide P w r base t v) : ∃ s, v = .string s := by
  simp only [Value.okWide, ht, Cell.okWide] at h
  cases v <;> simp_all [Cell.ok]
/-- An argument is a datum. -/
theorem open_arg {H : Type} {enc : TypeId × Value → H} {P : Program} {w : World} {r : Reach} {b0 base : Nat} {spare : Nat → Bool} {held : Bool} {v : Value} {d : DataW H} {p : List MemPlace} {t : TypeId} (n : Nat) (ty : Ty) (hrep : rep P n t ty = true) (hv : Value.okWide P w r b0 t v) (h : DataW.Trod enc P w base spare held t v d p) :
    ∃ y : ty.D, Rel1 [] (fun _ => True) w (.d ty y) v ∧ ty.ok y := by
  obtain ⟨fuel, hf⟩ := h
  have fin : v.cells.toList.length = ty.n → v = mkV ty v.cells.toList → ∃ y : ty.D, Rel1 [] (fun _ => True) w (.d ty y) v ∧ ty.ok y := fun hl hm => by
    obtain ⟨y, h1, h2⟩ := (rep_all ty).1 n t hrep fuel _ _ hl hf
    exact ⟨y, ⟨_, h1, hm⟩, h2⟩
  cases n with
  | zero => simp [rep] at hrep
  | succ n =>
    have hrep' := hrep
    unfold rep at hrep'
    split at hrep' <;> try (cases hrep'; done)
    · rename_i hu; obtain ⟨m, rfl⟩ := okWide_int hu hv; exact fin rfl rfl
    · rename_i hu; obtain ⟨m, rfl⟩ := okWide_bool hu hv; exact fin rfl rfl
    · rename_i hu; obtain ⟨m, rfl⟩ := okWide_str hu hv; exact fin rfl rfl
    · rename_i hu; obtain ⟨q, m, c, rfl⟩ := okWide_slice hu hv; exact fin rfl rfl
    · rename_i hu
      obtain ⟨cs, rfl, hsz⟩ := okWide_struct hu hv
      simp only [Bool.and_eq_true] at hrep'
      exact fin (by simp only [Value.cells, Array.length_toList, hsz]; exact Nat.eq_of_beq_eq_true hrep'.2) (by simp [mkV, Ty.isSt, Value.cells])
    · rename_i hu
      obtain ⟨cs, rfl, hsz⟩ := okWide_arr hu hv
      simp only [Bool.and_eq_true] at hrep'
      exact fin (by simp only [Value.cells, Array.length_toList, hsz]; exact Nat.eq_of_beq_eq_true hrep'.2) (by simp [mkV, Ty.isSt, Value.cells])
end Go.Proofs.YtcaiedfkohigjaaGreat

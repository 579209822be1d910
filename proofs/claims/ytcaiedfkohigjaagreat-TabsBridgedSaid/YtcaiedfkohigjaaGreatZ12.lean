/- The reference's integers: parts. -/
import Derived.Test.YtcaiedfkohigjaaGreatZ11
import Derived.Test.YtcaiedfkohigjaaGreatZ9
namespace Go.Proofs.YtcaiedfkohigjaaGreat
open Go.RowKit
def prtP (a b : List Int) : Prop := (can a ∧ a.length ≤ 1000000) ∧ (can b ∧ b.length ≤ 1000000) ∧ b ≠ []
instance (a b : List Int) : Decidable (prtP a b) := by unfold prtP; infer_instance
def qby_sp : Spec := { keep := false, run := fun _ args k => match args with
  | [.d (.sl (.int .u32)) a, .d (.int .u32) n] => match decide (byP a n) with
    | true => k [RV.d (.sl (.int .u32)) (limbs (val a * n).toNat)]
    | false => none
  | _ => none }
theorem qby_spec : callable Tryz.prog 153 = true ∧ SpecOk Tryz.prog 153 qby_sp ∧ ∀ g, qby_sp.mut_ = some g → MCon Tryz.prog 153 g := by
  refine ⟨by kernel_rfl, fun R args k r h => ?_, fun g h => by simp [qby_sp] at h⟩
  unfold qby_sp at h
  dsimp only at h
  split at h <;> try (cases h; done)
  split at h <;> try (cases h; done)
  rename_i hd
  exact ⟨_, h, qby_con _ _ (of_decide_eq_true hd)⟩

def envQg4 : Env := [(124, qtrm_sp), (95, qlbs_sp), (134, qsht_sp), (90, qcpr_sp), (153, qby_sp), (154, qmns_sp)]
theorem envQg4_ok : EnvAll Tryz.prog envQg4 := ⟨qtrm_spec, qlbs_spec, qsht_spec, qcpr_spec, qby_spec, qmns_spec, trivial⟩
def qprt_nt : NT := [((133, 30), { keep := [8, 9, 10, 11, 12, 13, 14], pure_ := [(11, .int .u32)], hl := 1 }), ((133, 67), { keep := [8, 9, 10, 11, 12, 13, 14, 16, 17], pure_ := [(17, .int .u32)], hl := 1 }), ((133, 90), { keep := [8, 11, 12, 18, 19, 20], hl := 2 })]
noncomputable def qprt_C : Ctx := ⟨Tryz.prog, ft, tys, envQg4, qprt_nt⟩
def qprt_h30 (a : List Int) (b : List Int) (x1 : Int) (x2 : Int) (s11 : List Int) (s14 : Int) (r0 : List Int) : Cfg := ⟨133, [.blk 0, .seq 82], [(8, .d (.int .u32) (IntKind.u32.wrap (IntKind.u64.wrap (Int.tdiv 1000000000 (IntKind.u64.wrap ((IntKind.u64.wrap x1) + 1)))))), (9, .d (.sl (.int .u32)) (limbs (val b * (IntKind.u32.wrap (IntKind.u64.wrap (Int.tdiv 1000000000 (IntKind.u64.wrap ((IntKind.u64.wrap x1) + 1)))))).toNat)), (10, .d (.int .u64) (IntKind.u64.wrap x2)), (11, .d (.sl (.int .u32)) s11), (12, .osl 0 1 ((0 : Int).toNat) ((((limbs (val a * (IntKind.u32.wrap (IntKind.u64.wrap (Int.tdiv 1000000000 (IntKind.u64.wrap ((IntKind.u64.wrap x1) + 1)))))).toNat).length : Int) : Int).toNat - (0 : Int).toNat)), (13, .d (.sl (.int .u32)) (limbs (val a * (IntKind.u32.wrap (IntKind.u64.wrap (Int.tdiv 1000000000 (IntKind.u64.wrap ((IntKind.u64.wrap x1) + 1)))))).toNat)), (14, SI s14)], [.row 137 (.int .u32) r0], 0, []⟩
def qprt_h67 (a : List Int) (b : List Int) (x1 : Int) (x2 : Int) (s11 : List Int) (s14 : Int) (r0 : List Int) (x3 : Int) (s16 : Int) (s17 : List Int) : Cfg := ⟨133, [.blk 2, .seq 78, .blk 1, .seq 81, .lp 30, .blk 0, .seq 82], [(8, .d (.int .u32) (IntKind.u32.wrap (IntKind.u64.wrap (Int.tdiv 1000000000 (IntKind.u64.wrap ((IntKind.u64.wrap x1) + 1)))))), (9, .d (.sl (.int .u32)) (limbs (val b * (IntKind.u32.wrap (IntKind.u64.wrap (Int.tdiv 1000000000 (IntKind.u64.wrap ((IntKind.u64.wrap x1) + 1)))))).toNat)), (10, .d (.int .u64) (IntKind.u64.wrap x2)), (11, .d (.sl (.int .u32)) (limbs (val (([x3]) ++ s11)).toNat)), (12, .osl 0 1 ((0 : Int).toNat) ((((limbs (val a * (IntKind.u32.wrap (IntKind.u64.wrap (Int.tdiv 1000000000 (IntKind.u64.wrap ((IntKind.u64.wrap x1) + 1)))))).toNat).length : Int) : Int).toNat - (0 : Int).toNat)), (13, .d (.sl (.int .u32)) (limbs (val a * (IntKind.u32.wrap (IntKind.u64.wrap (Int.tdiv 1000000000 (IntKind.u64.wrap ((IntKind.u64.wrap x1) + 1)))))).toNat)), (14, SI s14), (16, .d (.int .u64) s16), (17, .d (.sl (.int .u32)) s17)], [.row 137 (.int .u32) r0], 0, []⟩
def qprt_h90 (a : List Int) (x1 : Int) (s11 : List Int) (r0 : List Int) (s18 : Int) (s20 : Int) (r1 : List Int) : Cfg := ⟨133, [.blk 4, .seq 105], [(8, .d (.int .u32) (IntKind.u32.wrap (IntKind.u64.wrap (Int.tdiv 1000000000 (IntKind.u64.wrap ((IntKind.u64.wrap x1) + 1)))))), (11, .d (.sl (.int .u32)) s11), (12, .osl 0 1 ((0 : Int).toNat) ((((limbs (val a * (IntKind.u32.wrap (IntKind.u64.wrap (Int.tdiv 1000000000 (IntKind.u64.wrap ((IntKind.u64.wrap x1) + 1)))))).toNat).length : Int) : Int).toNat - (0 : Int).toNat)), (18, .d (.int .u64) s18), (19, .own 1), (20, SI s20)], [.row 137 (.int .u32) r0, .row 137 (.int .u32) r1], 0, []⟩
noncomputable def qprt_t (k : Nat → Cfg → Option (List RV)) (a : List Int) (b : List Int) : Option (List RV) := match decide ((a.length : Int) ≤ 2) with | true => (match decide ((b.length : Int) ≤ 2) with | true => (match decide (shtP a) with | true => (match decide (shtP b) with | true => (match decide (val b = (0 : Int)) with | true => none | false => (match decide (val b = (0 : Int)) with | true => none | false => (match decide (u64P (IntKind.u64.wrap (Int.tdiv (val a) (val b)))) with | true => (match decide (u64P (Int.tmod (val a) (val b))) with | true => some [RV.d (.sl (.int .u32)) (limbs (IntKind.u64.wrap (Int.tdiv (val a) (val b))).toNat), RV.d (.sl (.int .u32)) (limbs (Int.tmod (val a) (val b)).toNat)] | false => none) | false => none))) | false => none) | false => none) | false => (match getI b (IntKind.i64.wrap ((b.length : Int) - 1)) with | some x1 => (match decide (IntKind.u64.wrap ((IntKind.u64.wrap x1) + 1) = (0 : Int)) with | true => none | false => (match decide (byP b (IntKind.u32.wrap (IntKind.u64.wrap (Int.tdiv 1000000000 (IntKind.u64.wrap ((IntKind.u64.wrap x1) + 1)))))) with | true => (match getI (limbs (val b * (IntKind.u32.wrap (IntKind.u64.wrap (Int.tdiv 1000000000 (IntKind.u64.wrap ((IntKind.u64.wrap x1) + 1)))))).toNat) (IntKind.i64.wrap (((limbs (val b * (IntKind.u32.wrap (IntKind.u64.wrap (Int.tdiv 1000000000 (IntKind.u64.wrap ((IntKind.u64.wrap x1) + 1)))))).toNat).length : Int) - 1)) with | some x2 => (match decide ((0 : Int) ≤ IntKind.i64.wrap ((a.length : Int) + 1) ∧ (IntKind.i64.wrap ((a.length : Int) + 1)) * ((4 : Nat) : Int) ≤ 140737488355328 ∧ IntKind.i64.wrap ((a.length : Int) + 1) ≤ 140737488355328) with | true => (match decide (byP a (IntKind.u32.wrap (IntKind.u64.wrap (Int.tdiv 1000000000 (IntKind.u64.wrap ((IntKind.u64.wrap x1) + 1)))))) with | true => (match decide ((0 : Int) ≤ 0 ∧ 0 ≤ ((limbs (val a * (IntKind.u32.wrap (IntKind.u64.wrap (Int.tdiv 1000000000 (IntKind.u64.wrap ((IntKind.u64.wrap x1) + 1)))))).toNat).length : Int) ∧ ((limbs (val a * (IntKind.u32.wrap (IntKind.u64.wrap (Int.tdiv 1000000000 (IntKind.u64.wrap ((IntKind.u64.wrap x1) + 1)))))).toNat).length : Int) ≤ ((List.replicate (IntKind.i64.wrap ((a.length : Int) + 1)).toNat (0 : Int)).length : Int)) with | true => k 30 (qprt_h30 a b x1 x2 ([]) (IntKind.i64.wrap (((limbs (val a * (IntKind.u32.wrap (IntKind.u64.wrap (Int.tdiv 1000000000 (IntKind.u64.wrap ((IntKind.u64.wrap x1) + 1)))))).toNat).length : Int) - 1)) (List.replicate (IntKind.i64.wrap ((a.length : Int) + 1)).toNat (0 : Int))) | false => none) | false => none) | false => none) | none => none) | false => none)) | none => none)) | false => (match getI b (IntKind.i64.wrap ((b.length : Int) - 1)) with | some x1 => (match decide (IntKind.u64.wrap ((IntKind.u64.wrap x1) + 1) = (0 : Int)) with | true => none | false => (match decide (byP b (IntKind.u32.wrap (IntKind.u64.wrap (Int.tdiv 1000000000 (IntKind.u64.wrap ((IntKind.u64.wrap x1) + 1)))))) with | true => (match getI (limbs (val b * (IntKind.u32.wrap (IntKind.u64.wrap (Int.tdiv 1000000000 (IntKind.u64.wrap ((IntKind.u64.wrap x1) + 1)))))).toNat) (IntKind.i64.wrap (((limbs (val b * (IntKind.u32.wrap (IntKind.u64.wrap (Int.tdiv 1000000000 (IntKind.u64.wrap ((IntKind.u64.wrap x1) + 1)))))).toNat).length : Int) - 1)) with | some x2 => (match decide ((0 : Int) ≤ IntKind.i64.wrap ((a.length : Int) + 1) ∧ (IntKind.i64.wrap ((a.length : Int) + 1)) * ((4 : Nat) : Int) ≤ 140737488355328 ∧ IntKind.i64.wrap ((a.length : Int) + 1) ≤ 140737488355328) with | true => (match decide (byP a (IntKind.u32.wrap (IntKind.u64.wrap (Int.tdiv 1000000000 (IntKind.u64.wrap ((IntKind.u64.wrap x1) + 1)))))) with | true => (match decide ((0 : Int) ≤ 0 ∧ 0 ≤ ((limbs (val a * (IntKind.u32.wrap (IntKind.u64.wrap (Int.tdiv 1000000000 (IntKind.u64.wrap ((IntKind.u64.wrap x1) + 1)))))).toNat).length : Int) ∧ ((limbs (val a * (IntKind.u32.wrap (IntKind.u64.wrap (Int.tdiv 1000000000 (IntKind.u64.wrap ((IntKind.u64.wrap x1) + 1)))))).toNat).length : Int) ≤ ((List.replicate (IntKind.i64.wrap ((a.length : Int) + 1)).toNat (0 : Int)).length : Int)) with | true => k 30 (qprt_h30 a b x1 x2 ([]) (IntKind.i64.wrap (((limbs (val a * (IntKind.u32.wrap (IntKind.u64.wrap (Int.tdiv 1000000000 (IntKind.u64.wrap ((IntKind.u64.wrap x1) + 1)))))).toNat).length : Int) - 1)) (List.replicate (IntKind.i64.wrap ((a.length : Int) + 1)).toNat (0 : Int))) | false => none) | false => none) | false => none) | none => none) | false => none)) | none => none)
theorem qprt_eq (k : Nat → Cfg → Option (List RV)) (a : List Int) (b : List Int) : go Tryz.prog ft tys envQg4 qprt_nt k 4000 (start 133 [.d (.sl (.int .u32)) a, .d (.sl (.int .u32)) b]) (.node 0) = qprt_t k a b := (go2_eq _ _ _ _ _ _ _ _ _).symm.trans (show go2 Tryz.prog ft tys envQg4 qprt_nt k 4000 (start 133 [.d (.sl (.int .u32)) a, .d (.sl (.int .u32)) b]) (.node 0) = qprt_t k a b by kernel_rfl)
theorem qprt_s (a : List Int) (b : List Int) {rX : List RV} (hX : ∃ nX, qprt_t (qprt_C.k nX) a b = some rX) : qprt_C.Res 133 [.d (.sl (.int .u32)) a, .d (.sl (.int .u32)) b] rX := by
  obtain ⟨nX, hX⟩ := hX
  exact ⟨nX, (qprt_eq _ a b).trans hX⟩
noncomputable def qprt_h30_t (k : Nat → Cfg → Option (List RV)) (a : List Int) (b : List Int) (x1 : Int) (x2 : Int) (s11 : List Int) (s14 : Int) (r0 : List Int) : Option (List RV) := match decide (s14 ≥ 0) with | true => (match getI (limbs (val a * (IntKind.u32.wrap (IntKind.u64.wrap (Int.tdiv 1000000000 (IntKind.u64.wrap ((IntKind.u64.wrap x1) + 1)))))).toNat) s14 with | some x3 => (match decide ((([x3]).length + s11.length) * 4 ≤ 140737488355328 ∧ ([x3]).length + s11.length ≤ 140737488355328) with | true => (match decide (LimS (([x3]) ++ s11)) with | true => (match decide (((limbs (val (([x3]) ++ s11)).toNat).length : Int) > ((limbs (val b * (IntKind.u32.wrap (IntKind.u64.wrap (Int.tdiv 1000000000 (IntKind.u64.wrap ((IntKind.u64.wrap x1) + 1)))))).toNat).length : Int)) with | true => (match getI (limbs (val (([x3]) ++ s11)).toNat) ((limbs (val b * (IntKind.u32.wrap (IntKind.u64.wrap (Int.tdiv 1000000000 (IntKind.u64.wrap ((IntKind.u64.wrap x1) + 1)))))).toNat).length : Int) with | some x4 => (match decide (((limbs (val (([x3]) ++ s11)).toNat).length : Int) ≥ ((limbs (val b * (IntKind.u32.wrap (IntKind.u64.wrap (Int.tdiv 1000000000 (IntKind.u64.wrap ((IntKind.u64.wrap x1) + 1)))))).toNat).length : Int)) with | true => (match getI (limbs (val (([x3]) ++ s11)).toNat) (IntKind.i64.wrap (((limbs (val b * (IntKind.u32.wrap (IntKind.u64.wrap (Int.tdiv 1000000000 (IntKind.u64.wrap ((IntKind.u64.wrap x1) + 1)))))).toNat).length : Int) - 1)) with | some x5 => (match decide (IntKind.u64.wrap x2 = (0 : Int)) with | true => none | false => (match decide ((IntKind.u64.wrap (Int.tdiv (IntKind.u64.wrap ((IntKind.u64.wrap ((IntKind.u64.wrap x4) * 1000000000)) + (IntKind.u64.wrap x5))) (IntKind.u64.wrap x2))) > 999999999) with | true => (match decide (byP (limbs (val b * (IntKind.u32.wrap (IntKind.u64.wrap (Int.tdiv 1000000000 (IntKind.u64.wrap ((IntKind.u64.wrap x1) + 1)))))).toNat) (IntKind.u32.wrap 999999999)) with | true => k 67 (qprt_h67 a b x1 x2 s11 s14 r0 x3 999999999 (limbs (val (limbs (val b * (IntKind.u32.wrap (IntKind.u64.wrap (Int.tdiv 1000000000 (IntKind.u64.wrap ((IntKind.u64.wrap x1) + 1)))))).toNat) * (IntKind.u32.wrap 999999999)).toNat)) | false => none) | false => (match decide (byP (limbs (val b * (IntKind.u32.wrap (IntKind.u64.wrap (Int.tdiv 1000000000 (IntKind.u64.wrap ((IntKind.u64.wrap x1) + 1)))))).toNat) (IntKind.u32.wrap (IntKind.u64.wrap (Int.tdiv (IntKind.u64.wrap ((IntKind.u64.wrap ((IntKind.u64.wrap x4) * 1000000000)) + (IntKind.u64.wrap x5))) (IntKind.u64.wrap x2))))) with | true => k 67 (qprt_h67 a b x1 x2 s11 s14 r0 x3 (IntKind.u64.wrap (Int.tdiv (IntKind.u64.wrap ((IntKind.u64.wrap ((IntKind.u64.wrap x4) * 1000000000)) + (IntKind.u64.wrap x5))) (IntKind.u64.wrap x2))) (limbs (val (limbs (val b * (IntKind.u32.wrap (IntKind.u64.wrap (Int.tdiv 1000000000 (IntKind.u64.wrap ((IntKind.u64.wrap x1) + 1)))))).toNat) * (IntKind.u32.wrap (IntKind.u64.wrap (Int.tdiv (IntKind.u64.wrap ((IntKind.u64.wrap ((IntKind.u64.wrap x4) * 1000000000)) + (IntKind.u64.wrap x5))) (IntKind.u64.wrap x2))))).toNat)) | false => none))) | none => none) | false => (match decide (IntKind.u64.wrap x2 = (0 : Int)) with | true => none | false => (match decide ((IntKind.u64.wrap (Int.tdiv (IntKind.u64.wrap ((IntKind.u64.wrap x4) * 1000000000)) (IntKind.u64.wrap x2))) > 999999999) with | true => (match decide (byP (limbs (val b * (IntKind.u32.wrap (IntKind.u64.wrap (Int.tdiv 1000000000 (IntKind.u64.wrap ((IntKind.u64.wrap x1) + 1)))))).toNat) (IntKind.u32.wrap 999999999)) with | true => k 67 (qprt_h67 a b x1 x2 s11 s14 r0 x3 999999999 (limbs (val (limbs (val b * (IntKind.u32.wrap (IntKind.u64.wrap (Int.tdiv 1000000000 (IntKind.u64.wrap ((IntKind.u64.wrap x1) + 1)))))).toNat) * (IntKind.u32.wrap 999999999)).toNat)) | false => none) | false => (match decide (byP (limbs (val b * (IntKind.u32.wrap (IntKind.u64.wrap (Int.tdiv 1000000000 (IntKind.u64.wrap ((IntKind.u64.wrap x1) + 1)))))).toNat) (IntKind.u32.wrap (IntKind.u64.wrap (Int.tdiv (IntKind.u64.wrap ((IntKind.u64.wrap x4) * 1000000000)) (IntKind.u64.wrap x2))))) with | true => k 67 (qprt_h67 a b x1 x2 s11 s14 r0 x3 (IntKind.u64.wrap (Int.tdiv (IntKind.u64.wrap ((IntKind.u64.wrap x4) * 1000000000)) (IntKind.u64.wrap x2))) (limbs (val (limbs (val b * (IntKind.u32.wrap (IntKind.u64.wrap (Int.tdiv 1000000000 (IntKind.u64.wrap ((IntKind.u64.wrap x1) + 1)))))).toNat) * (IntKind.u32.wrap (IntKind.u64.wrap (Int.tdiv (IntKind.u64.wrap ((IntKind.u64.wrap x4) * 1000000000)) (IntKind.u64.wrap x2))))).toNat)) | false => none)))) | none => none) | false => (match decide (((limbs (val (([x3]) ++ s11)).toNat).length : Int) ≥ ((limbs (val b * (IntKind.u32.wrap (IntKind.u64.wrap (Int.tdiv 1000000000 (IntKind.u64.wrap ((IntKind.u64.wrap x1) + 1)))))).toNat).length : Int)) with | true => (match getI (limbs (val (([x3]) ++ s11)).toNat) (IntKind.i64.wrap (((limbs (val b * (IntKind.u32.wrap (IntKind.u64.wrap (Int.tdiv 1000000000 (IntKind.u64.wrap ((IntKind.u64.wrap x1) + 1)))))).toNat).length : Int) - 1)) with | some x4 => (match decide (IntKind.u64.wrap x2 = (0 : Int)) with | true => none | false => (match decide ((IntKind.u64.wrap (Int.tdiv (IntKind.u64.wrap (0 + (IntKind.u64.wrap x4))) (IntKind.u64.wrap x2))) > 999999999) with | true => (match decide (byP (limbs (val b * (IntKind.u32.wrap (IntKind.u64.wrap (Int.tdiv 1000000000 (IntKind.u64.wrap ((IntKind.u64.wrap x1) + 1)))))).toNat) (IntKind.u32.wrap 999999999)) with | true => k 67 (qprt_h67 a b x1 x2 s11 s14 r0 x3 999999999 (limbs (val (limbs (val b * (IntKind.u32.wrap (IntKind.u64.wrap (Int.tdiv 1000000000 (IntKind.u64.wrap ((IntKind.u64.wrap x1) + 1)))))).toNat) * (IntKind.u32.wrap 999999999)).toNat)) | false => none) | false => (match decide (byP (limbs (val b * (IntKind.u32.wrap (IntKind.u64.wrap (Int.tdiv 1000000000 (IntKind.u64.wrap ((IntKind.u64.wrap x1) + 1)))))).toNat) (IntKind.u32.wrap (IntKind.u64.wrap (Int.tdiv (IntKind.u64.wrap (0 + (IntKind.u64.wrap x4))) (IntKind.u64.wrap x2))))) with | true => k 67 (qprt_h67 a b x1 x2 s11 s14 r0 x3 (IntKind.u64.wrap (Int.tdiv (IntKind.u64.wrap (0 + (IntKind.u64.wrap x4))) (IntKind.u64.wrap x2))) (limbs (val (limbs (val b * (IntKind.u32.wrap (IntKind.u64.wrap (Int.tdiv 1000000000 (IntKind.u64.wrap ((IntKind.u64.wrap x1) + 1)))))).toNat) * (IntKind.u32.wrap (IntKind.u64.wrap (Int.tdiv (IntKind.u64.wrap (0 + (IntKind.u64.wrap x4))) (IntKind.u64.wrap x2))))).toNat)) | false => none))) | none => none) | false => (match decide (IntKind.u64.wrap x2 = (0 : Int)) with | true => none | false => (match decide ((IntKind.u64.wrap (Int.tdiv 0 (IntKind.u64.wrap x2))) > 999999999) with | true => (match decide (byP (limbs (val b * (IntKind.u32.wrap (IntKind.u64.wrap (Int.tdiv 1000000000 (IntKind.u64.wrap ((IntKind.u64.wrap x1) + 1)))))).toNat) (IntKind.u32.wrap 999999999)) with | true => k 67 (qprt_h67 a b x1 x2 s11 s14 r0 x3 999999999 (limbs (val (limbs (val b * (IntKind.u32.wrap (IntKind.u64.wrap (Int.tdiv 1000000000 (IntKind.u64.wrap ((IntKind.u64.wrap x1) + 1)))))).toNat) * (IntKind.u32.wrap 999999999)).toNat)) | false => none) | false => (match decide (byP (limbs (val b * (IntKind.u32.wrap (IntKind.u64.wrap (Int.tdiv 1000000000 (IntKind.u64.wrap ((IntKind.u64.wrap x1) + 1)))))).toNat) (IntKind.u32.wrap (IntKind.u64.wrap (Int.tdiv 0 (IntKind.u64.wrap x2))))) with | true => k 67 (qprt_h67 a b x1 x2 s11 s14 r0 x3 (IntKind.u64.wrap (Int.tdiv 0 (IntKind.u64.wrap x2))) (limbs (val (limbs (val b * (IntKind.u32.wrap (IntKind.u64.wrap (Int.tdiv 1000000000 (IntKind.u64.wrap ((IntKind.u64.wrap x1) + 1)))))).toNat) * (IntKind.u32.wrap (IntKind.u64.wrap (Int.tdiv 0 (IntKind.u64.wrap x2))))).toNat)) | false => none))))) | false => none) | false => none) | none => none) | false => (match decide ((0 : Int) ≤ (s11.length : Int) ∧ (s11.length : Int) * ((4 : Nat) : Int) ≤ 140737488355328 ∧ (s11.length : Int) ≤ 140737488355328) with | true => k 90 (qprt_h90 a x1 s11 r0 0 (IntKind.i64.wrap ((s11.length : Int) - 1)) (List.replicate ((s11.length : Int)).toNat (0 : Int))) | false => none)
theorem qprt_h30_eq (k : Nat → Cfg → Option (List RV)) (a : List Int) (b : List Int) (x1 : Int) (x2 : Int) (s11 : List Int) (s14 : Int) (r0 : List Int) : go Tryz.prog ft tys envQg4 qprt_nt k 4000 { qprt_h30 a b x1 x2 s11 s14 r0 with K := .lp 30 :: (qprt_h30 a b x1 x2 s11 s14 r0).K } (.node 31) = qprt_h30_t k a b x1 x2 s11 s14 r0 := (go2_eq _ _ _ _ _ _ _ _ _).symm.trans (show go2 Tryz.prog ft tys envQg4 qprt_nt k 4000 { qprt_h30 a b x1 x2 s11 s14 r0 with K := .lp 30 :: (qprt_h30 a b x1 x2 s11 s14 r0).K } (.node 31) = qprt_h30_t k a b x1 x2 s11 s14 r0 by kernel_rfl)
theorem qprt_h30_s (a : List Int) (b : List Int) (x1 : Int) (x2 : Int) (s11 : List Int) (s14 : Int) (r0 : List Int) {rX : List RV} (hX : ∃ nX, qprt_h30_t (qprt_C.k nX) a b x1 x2 s11 s14 r0 = some rX) : qprt_C.Runs 30 (qprt_h30 a b x1 x2 s11 s14 r0) rX := by
  obtain ⟨nX, hX⟩ := hX
  exact ⟨nX + 1, (qprt_h30_eq _ a b x1 x2 s11 s14 r0).trans hX⟩
noncomputable def qprt_h67_t (k : Nat → Cfg → Option (List RV)) (a : List Int) (b : List Int) (x1 : Int) (x2 : Int) (s11 : List Int) (s14 : Int) (r0 : List Int) (x3 : Int) (s16 : Int) (s17 : List Int) : Option (List RV) := match decide (can2 s17 (limbs (val (([x3]) ++ s11)).toNat)) with | true => (match decide ((cmpI (val s17) (val (limbs (val (([x3]) ++ s11)).toNat))) > 0) with | true => (match decide (mnsP s17 (limbs (val b * (IntKind.u32.wrap (IntKind.u64.wrap (Int.tdiv 1000000000 (IntKind.u64.wrap ((IntKind.u64.wrap x1) + 1)))))).toNat)) with | true => k 67 (qprt_h67 a b x1 x2 s11 s14 r0 x3 (IntKind.u64.wrap (s16 - 1)) (limbs (val s17 - val (limbs (val b * (IntKind.u32.wrap (IntKind.u64.wrap (Int.tdiv 1000000000 (IntKind.u64.wrap ((IntKind.u64.wrap x1) + 1)))))).toNat)).toNat)) | false => none) | false => (match decide (mnsP (limbs (val (([x3]) ++ s11)).toNat) s17) with | true => (match true, decide ((0 : Int) ≤ s14 ∧ s14 < (((((limbs (val a * (IntKind.u32.wrap (IntKind.u64.wrap (Int.tdiv 1000000000 (IntKind.u64.wrap ((IntKind.u64.wrap x1) + 1)))))).toNat).length : Int) : Int).toNat - (0 : Int).toNat : Nat) : Int)) with | true, true => (match true, r0[(0 : Int).toNat + (s14).toNat]? with | true, some _ => k 30 (qprt_h30 a b x1 x2 (limbs (val (limbs (val (([x3]) ++ s11)).toNat) - val s17).toNat) (IntKind.i64.wrap (s14 - 1)) (r0.set ((0 : Int).toNat + (s14).toNat) (IntKind.u32.wrap s16))) | _, _ => none) | _, _ => none) | false => none)) | false => none
theorem qprt_h67_eq (k : Nat → Cfg → Option (List RV)) (a : List Int) (b : List Int) (x1 : Int) (x2 : Int) (s11 : List Int) (s14 : Int) (r0 : List Int) (x3 : Int) (s16 : Int) (s17 : List Int) : go Tryz.prog ft tys envQg4 qprt_nt k 4000 { qprt_h67 a b x1 x2 s11 s14 r0 x3 s16 s17 with K := .lp 67 :: (qprt_h67 a b x1 x2 s11 s14 r0 x3 s16 s17).K } (.node 68) = qprt_h67_t k a b x1 x2 s11 s14 r0 x3 s16 s17 := (go2_eq _ _ _ _ _ _ _ _ _).symm.trans (show go2 Tryz.prog ft tys envQg4 qprt_nt k 4000 { qprt_h67 a b x1 x2 s11 s14 r0 x3 s16 s17 with K := .lp 67 :: (qprt_h67 a b x1 x2 s11 s14 r0 x3 s16 s17).K } (.node 68) = qprt_h67_t k a b x1 x2 s11 s14 r0 x3 s16 s17 by kernel_rfl)
theorem qprt_h67_s (a : List Int) (b : List Int) (x1 : Int) (x2 : Int) (s11 : List Int) (s14 : Int) (r0 : List Int) (x3 : Int) (s16 : Int) (s17 : List Int) {rX : List RV} (hX : ∃ nX, qprt_h67_t (qprt_C.k nX) a b x1 x2 s11 s14 r0 x3 s16 s17 = some rX) : qprt_C.Runs 67 (qprt_h67 a b x1 x2 s11 s14 r0 x3 s16 s17) rX := by
  obtain ⟨nX, hX⟩ := hX
  exact ⟨nX + 1, (qprt_h67_eq _ a b x1 x2 s11 s14 r0 x3 s16 s17).trans hX⟩
noncomputable def qprt_h90_t (k : Nat → Cfg → Option (List RV)) (a : List Int) (x1 : Int) (s11 : List Int) (r0 : List Int) (s18 : Int) (s20 : Int) (r1 : List Int) : Option (List RV) := match decide (s20 ≥ 0) with | true => (match getI s11 s20 with | some x2 => (match decide (IntKind.u64.wrap (IntKind.u32.wrap (IntKind.u64.wrap (Int.tdiv 1000000000 (IntKind.u64.wrap ((IntKind.u64.wrap x1) + 1))))) = (0 : Int)) with | true => none | false => (match getI r1 s20 with | some _ => (match true, r1[(s20).toNat]? with | true, some _ => (match decide (IntKind.u64.wrap (IntKind.u32.wrap (IntKind.u64.wrap (Int.tdiv 1000000000 (IntKind.u64.wrap ((IntKind.u64.wrap x1) + 1))))) = (0 : Int)) with | true => none | false => k 90 (qprt_h90 a x1 s11 r0 (Int.tmod (IntKind.u64.wrap ((IntKind.u64.wrap (s18 * 1000000000)) + (IntKind.u64.wrap x2))) (IntKind.u64.wrap (IntKind.u32.wrap (IntKind.u64.wrap (Int.tdiv 1000000000 (IntKind.u64.wrap ((IntKind.u64.wrap x1) + 1))))))) (IntKind.i64.wrap (s20 - 1)) (r1.set ((s20).toNat) (IntKind.u32.wrap (IntKind.u64.wrap (Int.tdiv (IntKind.u64.wrap ((IntKind.u64.wrap (s18 * 1000000000)) + (IntKind.u64.wrap x2))) (IntKind.u64.wrap (IntKind.u32.wrap (IntKind.u64.wrap (Int.tdiv 1000000000 (IntKind.u64.wrap ((IntKind.u64.wrap x1) + 1)))))))))))) | _, _ => none) | none => none)) | none => none) | false => (match decide (LimS ((r0.drop ((0 : Int).toNat)).take ((((limbs (val a * (IntKind.u32.wrap (IntKind.u64.wrap (Int.tdiv 1000000000 (IntKind.u64.wrap ((IntKind.u64.wrap x1) + 1)))))).toNat).length : Int) : Int).toNat - (0 : Int).toNat))) with | true => (match decide (LimS r1) with | true => some [RV.d (.sl (.int .u32)) (limbs (val ((r0.drop ((0 : Int).toNat)).take ((((limbs (val a * (IntKind.u32.wrap (IntKind.u64.wrap (Int.tdiv 1000000000 (IntKind.u64.wrap ((IntKind.u64.wrap x1) + 1)))))).toNat).length : Int) : Int).toNat - (0 : Int).toNat))).toNat), RV.d (.sl (.int .u32)) (limbs (val r1).toNat)] | false => none) | false => none)
theorem qprt_h90_eq (k : Nat → Cfg → Option (List RV)) (a : List Int) (x1 : Int) (s11 : List Int) (r0 : List Int) (s18 : Int) (s20 : Int) (r1 : List Int) : go Tryz.prog ft tys envQg4 qprt_nt k 4000 { qprt_h90 a x1 s11 r0 s18 s20 r1 with K := .lp 90 :: (qprt_h90 a x1 s11 r0 s18 s20 r1).K } (.node 91) = qprt_h90_t k a x1 s11 r0 s18 s20 r1 := (go2_eq _ _ _ _ _ _ _ _ _).symm.trans (show go2 Tryz.prog ft tys envQg4 qprt_nt k 4000 { qprt_h90 a x1 s11 r0 s18 s20 r1 with K := .lp 90 :: (qprt_h90 a x1 s11 r0 s18 s20 r1).K } (.node 91) = qprt_h90_t k a x1 s11 r0 s18 s20 r1 by kernel_rfl)
theorem qprt_h90_s (a : List Int) (x1 : Int) (s11 : List Int) (r0 : List Int) (s18 : Int) (s20 : Int) (r1 : List Int) {rX : List RV} (hX : ∃ nX, qprt_h90_t (qprt_C.k nX) a x1 s11 r0 s18 s20 r1 = some rX) : qprt_C.Runs 90 (qprt_h90 a x1 s11 r0 s18 s20 r1) rX := by
  obtain ⟨nX, hX⟩ := hX
  exact ⟨nX + 1, (qprt_h90_eq _ a x1 s11 r0 s18 s20 r1).trans hX⟩
def qsc (x1 : Int) : Int := IntKind.u32.wrap (IntKind.u64.wrap (Int.tdiv 1000000000 (IntKind.u64.wrap ((IntKind.u64.wrap x1) + 1))))
theorem qsc_fold (x1 : Int) : IntKind.u32.wrap (IntKind.u64.wrap (Int.tdiv 1000000000 (IntKind.u64.wrap ((IntKind.u64.wrap x1) + 1)))) = qsc x1 := by
  have h : ∀ y, qsc x1 = y → y = qsc x1 := fun y e => e.symm
  exact h _ rfl
theorem qsc_ok {x : Int} (h1 : 1 ≤ x) (h2 : x < 1000000000) : qsc x = 1000000000 / (x + 1) ∧ 1 ≤ qsc x ∧ qsc x < 1000000000 := by
  have h3 : 1 ≤ 1000000000 / (x + 1) := Int.le_ediv_of_mul_le (by omega) (by omega)
  have h4 : 1000000000 / (x + 1) < 1000000000 := Int.ediv_lt_of_lt_mul (by omega) (by omega)
  unfold qsc
  rw [wr64 (x := x) (by omega) (by omega), wr64 (x := x + 1) (by omega) (by omega), tdivP (by omega), wr64 (by omega) (by omega), wr32 (by omega) (by omega)]
  exact ⟨rfl, h3, h4⟩
theorem limbs_topq {v : Int} (h : 0 < v) : ∃ (n : Nat) (x : Int), (limbs v.toNat).length = n + 1 ∧ (limbs v.toNat)[n]? = some x ∧ 1 ≤ x ∧ x < 1000000000 ∧ x * pw n ≤ v := by
  have hne : limbs v.toNat ≠ [] := fun e => by rw [limbs_nil] at e; omega
  rcases List.eq_nil_or_concat (limbs v.toNat) with h0 | ⟨l, x, hx⟩
  · exact absurd h0 hne
  · have hv := limbs_val v.toNat
    have hc := limbs_can v.toNat
    have hl := limbs_lim v.toNat
    rw [List.concat_eq_append] at hx
    rw [hx] at hv hc hl
    have hxx := hl x (by simp)
    have hx0 : x ≠ 0 := fun e => hc.2 (by simp [e])
    have hln := val_nonneg (l := l) (fun y hy => hl y (by simp [hy]))
    rw [val_append] at hv
    simp only [val] at hv
    refine ⟨l.length, x, by rw [hx]; simp, by rw [hx]; simp, by omega, hxx.2, ?_⟩
    rw [Int.mul_comm]
    rw [Int.mul_zero, Int.add_zero] at hv
    omega
section
variable (a b : List Int) (x1 x2 : Int) (V : Int) (hV : val b * qsc x1 = V) (hs : 1 ≤ qsc x1 ∧ qsc x1 < 1000000000) (hp : 0 < V) (hra : (limbs (val a * qsc x1).toNat).length ≤ a.length + 1) (ha : Lim a ∧ a.length ≤ 1000000) (hL : (limbs V.toNat).length ≤ 1000001)
theorem qprt_fin (hs : 1 ≤ qsc x1 ∧ qsc x1 < 1000000000) (l r0 : List Int) (hl : Lim l ∧ l.length ≤ 2000000) (hr0 : LimS r0) (hz0 : ∀ k (hk : k < r0.length), (limbs (val a * qsc x1).toNat).length ≤ k → r0[k] = 0) : ∀ (n : Nat) (c : Int) (r : List Int), n ≤ l.length → 0 ≤ c → c < qsc x1 → Lim r → r.length = l.length → (∀ k (hk : k < r.length), k < n → r[k] = 0) → qsc x1 * val r + pw n * c + val (l.take n) = val l →
    qprt_C.Runs 90 (qprt_h90 a x1 l r0 c ((n : Int) - 1) r) [.d (.sl (.int .u32)) (limbs (val r0).toNat), .d (.sl (.int .u32)) (limbs (val l / qsc x1).toNat)] := by
  have hsa := hl.2
  have e64 : IntKind.u64.wrap (qsc x1) = qsc x1 := wr64 (by omega) (by omega)
  intro n
  induction n with
  | zero =>
    intro c r hn c0 c1 hr hlen hz hv
    simp only [pw_zero, List.take_zero, val, Int.one_mul, Int.add_zero] at hv
    have e2 : val l / qsc x1 = val r := by
      rw [← hv, Int.add_comm, Int.add_mul_ediv_left _ _ (by omega), Int.ediv_eq_zero_of_lt c0 c1]
      omega
    have e3 := val_take hz0
    have e4 : LimS (r0.take (limbs (val a * qsc x1).toNat).length) := ⟨hr0.1.take _, by have := hr0.2; rw [List.length_take]; omega⟩
    refine qprt_h90_s _ _ _ _ _ _ _ ⟨0, ?_⟩
    unfold qprt_h90_t
    simp only [qsc_fold, Int.toNat_zero, Int.toNat_natCast, List.drop_zero, Nat.sub_zero]
    rw [dF (by omega)]
    dsimp only
    rw [dT e4, dT (show LimS r from ⟨hr, by omega⟩), e3, e2]
  | succ n ih =>
    intro c r hn c0 c1 hr hlen hz hv
    have hna : n < l.length := by omega
    have hnr : n < r.length := by omega
    have xa := hl.1.get hna
    have hr0' := hz n hnr (by omega)
    have hcb : 0 ≤ c * 1000000000 + l[n] := by omega
    have m0 := Int.emod_nonneg (c * 1000000000 + l[n]) (show qsc x1 ≠ 0 by omega)
    have m1 := Int.emod_lt_of_pos (c * 1000000000 + l[n]) (show 0 < qsc x1 by omega)
    have md := Int.mul_ediv_add_emod (c * 1000000000 + l[n]) (qsc x1)
    have d0 : 0 ≤ (c * 1000000000 + l[n]) / qsc x1 := Int.ediv_nonneg hcb (by omega)
    have d1 : (c * 1000000000 + l[n]) / qsc x1 < 1000000000 := by
      refine Int.ediv_lt_of_lt_mul (by omega) ?_
      have := Int.mul_le_mul_of_nonneg_right (show c + 1 ≤ qsc x1 by omega) (show (0 : Int) ≤ 1000000000 by decide)
      rw [Int.mul_comm 1000000000 (qsc x1)]
      omega
    obtain ⟨q, hq⟩ := ih ((c * 1000000000 + l[n]) % qsc x1) (r.set n ((c * 1000000000 + l[n]) / qsc x1)) (by omega) m0 m1 (hr.set n ⟨d0, d1⟩) (by simpa using hlen)
      (fun k hk hkn => by rw [List.getElem_set_ne (by omega)]; exact hz k (by simpa using hk) (by omega)) (by
        rw [val_set hnr, hr0']
        rw [val_take_succ hna, pw_succ] at hv
        grind)
    refine qprt_h90_s _ _ _ _ _ _ _ ⟨q, ?_⟩
    unfold qprt_h90_t
    simp only [qsc_fold]
    rw [show ((n + 1 : Nat) : Int) - 1 = (n : Int) by omega, dT (by omega), getI_nat l n, List.getElem?_eq_getElem hna, e64, dF (show ¬ qsc x1 = 0 by omega), getI_nat r n, toNat_nat, List.getElem?_eq_getElem hnr]
    dsimp only
    rw [wr64 (x := c * 1000000000) (by omega) (by omega), wr64 (x := l[n]) (by omega) (by omega), wr64 (x := c * 1000000000 + l[n]) (by omega) (by omega), tdivP hcb, tmodP hcb, wr64 (x := (c * 1000000000 + l[n]) / qsc x1) (by omega) (by omega), wr32 (x := (c * 1000000000 + l[n]) / qsc x1) (by omega) (by omega), wrap64 (x := (n : Int) - 1) (by omega) (by omega)]
    exact hq
include hV hp hL in
/-- A digit that is not too small is lowered to the right one. -/
theorem qprt_digit {res : List RV} (i : Nat) (hi : i < (limbs (val a * qsc x1).toNat).length) (r0 l : List Int) (hlr : r0.length = a.length + 1) (hra : (limbs (val a * qsc x1).toNat).length ≤ a.length + 1) (x3 : Int) (W : Int) (hW : val ([x3] ++ l) = W) (W0 : 0 ≤ W) (hWl : (limbs W.toNat).length ≤ 1000002)
    (hout : qprt_C.Runs 30 (qprt_h30 a b x1 x2 (limbs (W % V).toNat) ((i : Int) - 1) (r0.set i (W / V))) res) (hi' : (limbs (val a * qsc x1).toNat).length ≤ 2000000) :
    ∀ (d : Nat), d ≤ 999999999 → W < V * ((d : Int) + 1) → qprt_C.Runs 67 (qprt_h67 a b x1 x2 l (i : Int) r0 x3 (d : Int) (limbs (V * (d : Int)).toNat)) res := by
  intro d
  have hsz : ∀ e : Nat, e ≤ 999999999 → (limbs (V * (e : Int)).toNat).length ≤ 1000002 := fun e he => by
    refine limbs_len_int (Int.mul_nonneg (by omega) (by omega)) ?_
    have h1 : V < pw 1000001 := by
      have := val_lt (limbs_lim V.toNat)
      rw [limbs_val] at this
      have := pw_mono hL
      omega
    rw [pw_succ 1000001]
    have h2 : V * (e : Int) ≤ V * 999999999 := Int.mul_le_mul_of_nonneg_left (by omega) (by omega)
    omega
  induction d with
  | zero =>
    intro _ hd
    obtain ⟨q, hq⟩ := hout
    have hWV : W < V := by simpa using hd
    rw [Int.emod_eq_of_lt W0 hWV, Int.ediv_eq_zero_of_lt W0 hWV] at hq
    refine qprt_h67_s _ _ _ _ _ _ _ _ _ _ ⟨q, ?_⟩
    unfold qprt_h67_t
    simp only [qsc_fold, hV, hW]
    rw [show (V * ((0 : Nat) : Int)).toNat = 0 by simp, dT (show can2 (limbs 0) (limbs W.toNat) from ⟨⟨limbs_can _, by decide⟩, limbs_can _, by omega⟩), val_limbs W0, cmpI_gt0, show val (limbs 0) = 0 from rfl, dF (show ¬ W < 0 by omega), dT (show mnsP (limbs W.toNat) (limbs 0) from ⟨limS_limbs (by omega), limS_limbs (by decide), by rw [val_limbs W0]; exact W0⟩)]
    dsimp only
    rw [dT (show (0 : Int) ≤ (i : Int) ∧ (i : Int) < ((((limbs (val a * qsc x1).toNat).length : Int).toNat - (0 : Int).toNat : Nat) : Int) by constructor <;> simp <;> omega)]
    rw [show (0 : Int).toNat + ((i : Int)).toNat = i by simp, List.getElem?_eq_getElem (by omega)]
    dsimp only
    rw [Int.sub_zero, wrap64 (by omega) (by omega)]
    exact hq
  | succ d ih =>
    intro hd1 hd
    have hc : ((d + 1 : Nat) : Int) = (d : Int) + 1 := by omega
    rw [hc] at hd
    have hV1 : 0 ≤ V * ((d : Int) + 1) := Int.mul_nonneg (by omega) (by omega)
    have hV0 : 0 ≤ V * (d : Int) := Int.mul_nonneg (by omega) (by omega)
    have hVd : V * ((d : Int) + 1) - V = V * (d : Int) := by grind
    have hs1 := hsz (d + 1) (by omega)
    rw [hc] at hs1
    have k1 := limbs_val V.toNat
    by_cases hg : W < V * ((d : Int) + 1)
    · obtain ⟨q, hq⟩ := ih (by omega) hg
      refine qprt_h67_s _ _ _ _ _ _ _ _ _ _ ⟨q, ?_⟩
      unfold qprt_h67_t
      simp only [qsc_fold, hV, hW]
      rw [hc, dT (show can2 (limbs (V * ((d : Int) + 1)).toNat) (limbs W.toNat) from ⟨⟨limbs_can _, by omega⟩, limbs_can _, by omega⟩), val_limbs W0, val_limbs hV1, cmpI_gt0, dT hg, dT (show mnsP (limbs (V * ((d : Int) + 1)).toNat) (limbs V.toNat) from ⟨limS_limbs (by omega), limS_limbs (by omega), by rw [val_limbs hV1, val_limbs (by omega)]; omega⟩), val_limbs (v := V) (by omega), hVd, wr64 (by omega) (by omega), show (d : Int) + 1 - 1 = (d : Int) by omega]
      exact hq
    · obtain ⟨q, hq⟩ := hout
      have e1 : W / V = (d : Int) + 1 := by
        have : W = (W - V * ((d : Int) + 1)) + V * ((d : Int) + 1) := by omega
        rw [this, Int.add_mul_ediv_left _ _ (by omega), Int.ediv_eq_zero_of_lt (by omega) (by grind)]
        omega
      have e2 : W % V = W - V * ((d : Int) + 1) := by
        have := Int.mul_ediv_add_emod W V
        rw [e1] at this
        omega
      rw [e1, e2] at hq
      refine qprt_h67_s _ _ _ _ _ _ _ _ _ _ ⟨q, ?_⟩
      unfold qprt_h67_t
      simp only [qsc_fold, hV, hW]
      rw [hc, dT (show can2 (limbs (V * ((d : Int) + 1)).toNat) (limbs W.toNat) from ⟨⟨limbs_can _, by omega⟩, limbs_can _, by omega⟩), val_limbs W0, val_limbs hV1, cmpI_gt0, dF hg, dT (show mnsP (limbs W.toNat) (limbs (V * ((d : Int) + 1)).toNat) from ⟨limS_limbs (by omega), limS_limbs (by omega), by rw [val_limbs hV1, val_limbs W0]; omega⟩)]
      dsimp only
      rw [dT (show (0 : Int) ≤ (i : Int) ∧ (i : Int) < ((((limbs (val a * qsc x1).toNat).length : Int).toNat - (0 : Int).toNat : Nat) : Int) by constructor <;> simp <;> omega)]
      rw [show (0 : Int).toNat + ((i : Int)).toNat = i by simp, List.getElem?_eq_getElem (by omega)]
      dsimp only
      rw [wrap64 (by omega) (by omega), wr32 (by omega) (by omega)]
      exact hq
end
end Go.Proofs.YtcaiedfkohigjaaGreat
/- The reference's integers: the whole of parts. -/
namespace Go.Proofs.YtcaiedfkohigjaaGreat
open Go.RowKit
def qprt_tail (k : Nat → Cfg → Option (List RV)) (a b : List Int) (x1 x2 : Int) (s11 : List Int) (s14 : Int) (r0 : List Int) (x3 H : Int) : Option (List RV) := match decide (IntKind.u64.wrap x2 = (0 : Int)) with | true => none | false => (match decide ((IntKind.u64.wrap (Int.tdiv H (IntKind.u64.wrap x2))) > 999999999) with | true => (match decide (byP (limbs (val b * (IntKind.u32.wrap (IntKind.u64.wrap (Int.tdiv 1000000000 (IntKind.u64.wrap ((IntKind.u64.wrap x1) + 1)))))).toNat) (IntKind.u32.wrap 999999999)) with | true => k 67 (qprt_h67 a b x1 x2 s11 s14 r0 x3 999999999 (limbs (val (limbs (val b * (IntKind.u32.wrap (IntKind.u64.wrap (Int.tdiv 1000000000 (IntKind.u64.wrap ((IntKind.u64.wrap x1) + 1)))))).toNat) * (IntKind.u32.wrap 999999999)).toNat)) | false => none) | false => (match decide (byP (limbs (val b * (IntKind.u32.wrap (IntKind.u64.wrap (Int.tdiv 1000000000 (IntKind.u64.wrap ((IntKind.u64.wrap x1) + 1)))))).toNat) (IntKind.u32.wrap (IntKind.u64.wrap (Int.tdiv H (IntKind.u64.wrap x2))))) with | true => k 67 (qprt_h67 a b x1 x2 s11 s14 r0 x3 (IntKind.u64.wrap (Int.tdiv H (IntKind.u64.wrap x2))) (limbs (val (limbs (val b * (IntKind.u32.wrap (IntKind.u64.wrap (Int.tdiv 1000000000 (IntKind.u64.wrap ((IntKind.u64.wrap x1) + 1)))))).toNat) * (IntKind.u32.wrap (IntKind.u64.wrap (Int.tdiv H (IntKind.u64.wrap x2))))).toNat)) | false => none))
theorem digit_ok {W V H x p d : Int} (hx : 1 ≤ x) (hW : W < (H + 1) * p) (hp : 0 < p) (hV : x * p ≤ V) (hd : H / x = d) (h0 : 0 ≤ H) : W < V * (d + 1) := by
  have h1 := Int.mul_ediv_add_emod H x
  have h2 := Int.emod_lt_of_pos H (show 0 < x by omega)
  have h3 : 0 ≤ d := by rw [← hd]; exact Int.ediv_nonneg h0 (by omega)
  rw [hd] at h1
  have h4 : H + 1 ≤ x * (d + 1) := by grind
  have h5 := Int.mul_le_mul_of_nonneg_right h4 (Int.le_of_lt hp)
  have h6 := Int.mul_le_mul_of_nonneg_right hV (show 0 ≤ d + 1 by omega)
  grind
theorem sc_end {A B s R q : Int} (hs : 0 < s) (h : A * s = R + B * s * q) (h0 : 0 ≤ R) (h1 : R < B * s) : A / B = q ∧ A % B = R / s := by
  have e : R = s * (A - B * q) := by grind
  have hm : R / s = A - B * q := by rw [e]; exact Int.mul_ediv_cancel_left _ (by omega)
  have m0 : 0 ≤ A - B * q := by
    apply Classical.byContradiction
    intro hc
    have := Int.mul_le_mul_of_nonneg_left (show A - B * q ≤ -1 by omega) (Int.le_of_lt hs)
    omega
  have m1 : A - B * q < B := by
    apply Classical.byContradiction
    intro hc
    have := Int.mul_le_mul_of_nonneg_left (show B ≤ A - B * q by omega) (Int.le_of_lt hs)
    grind
  have hA : A = (A - B * q) + B * q := by omega
  constructor
  · rw [hA, Int.add_mul_ediv_left _ _ (by omega), Int.ediv_eq_zero_of_lt (by omega) (by omega)]; omega
  · rw [hm, hA, Int.add_mul_emod_self_left, Int.emod_eq_of_lt (by omega) (by omega)]; omega
section
variable (a b : List Int) (x1 x2 : Int) (V : Int) (hV : val b * qsc x1 = V) (hs : 1 ≤ qsc x1 ∧ qsc x1 < 1000000000) (hp : 0 < V) (hra : (limbs (val a * qsc x1).toNat).length ≤ a.length + 1) (ha : Lim a ∧ a.length ≤ 1000000) (hL : (limbs V.toNat).length ≤ 1000001)
include hV hs hp hra ha hL in
theorem qprt_outer (n : Nat) (hn : (limbs V.toNat).length = n + 1) (hx2 : 1 ≤ x2 ∧ x2 < 1000000000) (hxp : x2 * pw n ≤ V) : ∀ (i : Nat) (R : Int) (r0 : List Int), i ≤ (limbs (val a * qsc x1).toNat).length → 0 ≤ R → R < V → r0.length = a.length + 1 → Lim r0 →
    (∀ k (hk : k < r0.length), k < i → r0[k] = 0) → (∀ k (hk : k < r0.length), (limbs (val a * qsc x1).toNat).length ≤ k → r0[k] = 0) → val a * qsc x1 = pw i * R + val ((limbs (val a * qsc x1).toNat).take i) + V * val r0 →
    qprt_C.Runs 30 (qprt_h30 a b x1 x2 (limbs R.toNat) ((i : Int) - 1) r0) [.d (.sl (.int .u32)) (limbs (val a / val b).toNat), .d (.sl (.int .u32)) (limbs (val a % val b).toNat)] := by
  have hVp : V < pw 1000001 := by
    have := val_lt (limbs_lim V.toNat)
    rw [limbs_val] at this
    have := pw_mono hL
    omega
  have ha2 := ha.2
  intro i
  induction i with
  | zero =>
    intro R r0 _ R0 RV hlr hl _ hz he
    simp only [pw_zero, List.take_zero, val, Int.one_mul, Int.add_zero] at he
    rw [← hV] at he
    obtain ⟨e1, e2⟩ := sc_end (by omega) he R0 (by rw [hV]; exact RV)
    have hRl : (limbs R.toNat).length ≤ 1000001 := limbs_len_int R0 (by omega)
    obtain ⟨q, hq⟩ := qprt_fin a x1 hs (limbs R.toNat) r0 ⟨limbs_lim _, by omega⟩ ⟨hl, by omega⟩ hz (limbs R.toNat).length 0 (List.replicate (limbs R.toNat).length 0) (Nat.le_refl _) (by omega) (by omega) (Lim.rep _) (by simp) (fun k hk _ => by simp) (by simp [val_rep])
    rw [val_limbs R0, ← e2, ← e1] at hq
    refine qprt_h30_s _ _ _ _ _ _ _ ⟨q, ?_⟩
    unfold qprt_h30_t
    rw [dF (by omega)]
    dsimp only
    rw [dT (show (0 : Int) ≤ ((limbs R.toNat).length : Int) ∧ ((limbs R.toNat).length : Int) * ((4 : Nat) : Int) ≤ 140737488355328 ∧ ((limbs R.toNat).length : Int) ≤ 140737488355328 from ⟨by omega, by omega, by omega⟩), toNat_nat, wrap64 (by omega) (by omega)]
    exact hq
  | succ i ih =>
    intro R r0 hi R0 RV hlr hl hz hz2 he
    have hiU : i < (limbs (val a * qsc x1).toNat).length := by omega
    have hx := (limbs_lim (val a * qsc x1).toNat).get hiU
    have hir : i < r0.length := by omega
    have hr0 := hz i hir (by omega)
    -- the number that is divided by V in this step
    have hWv : val ([(limbs (val a * qsc x1).toNat)[i]] ++ limbs R.toNat) = (limbs (val a * qsc x1).toNat)[i] + 1000000000 * R := by
      rw [val_append, val_limbs R0]
      simp [val, pw]
    generalize hxi : (limbs (val a * qsc x1).toNat)[i] = x at hx hWv
    have W0 : 0 ≤ x + 1000000000 * R := by omega
    have WV : x + 1000000000 * R < 1000000000 * V := by omega
    have hWl : (limbs (x + 1000000000 * R).toNat).length ≤ n + 2 := by
      refine limbs_len_int W0 ?_
      have := val_lt (limbs_lim V.toNat)
      rw [limbs_val, hn] at this
      rw [pw_succ (n + 1)]
      omega
    have hRl : (limbs R.toNat).length ≤ 1000001 := limbs_len_int R0 (by omega)
    have q0 : 0 ≤ (x + 1000000000 * R) / V := Int.ediv_nonneg W0 (by omega)
    have q1 : (x + 1000000000 * R) / V < 1000000000 := Int.ediv_lt_of_lt_mul hp (by omega)
    have m0 := Int.emod_nonneg (x + 1000000000 * R) (show V ≠ 0 by omega)
    have m1 := Int.emod_lt_of_pos (x + 1000000000 * R) hp
    have md := Int.mul_ediv_add_emod (x + 1000000000 * R) V
    have hout := ih ((x + 1000000000 * R) % V) (r0.set i ((x + 1000000000 * R) / V)) (by omega) m0 m1 (by simpa using hlr) (hl.set i ⟨q0, q1⟩)
      (fun k hk hk' => by rw [List.getElem_set_ne (by omega)]; exact hz k (by simpa using hk) (by omega))
      (fun k hk hk' => by rw [List.getElem_set_ne (by omega)]; exact hz2 k (by simpa using hk) hk') (by
        rw [val_set hir, hr0]
        rw [val_take_succ hiU, pw_succ, hxi] at he
        grind)
    have hdig := qprt_digit a b x1 x2 V hV hp hL i hiU r0 (limbs R.toNat) hlr hra x (x + 1000000000 * R) hWv W0 (by omega) hout (by omega)
    have htail : ∀ H : Int, 0 ≤ H → H < 1000000000000000000 → x + 1000000000 * R < (H + 1) * pw n → ∃ q, qprt_tail (qprt_C.k q) a b x1 x2 (limbs R.toNat) ((i : Int)) r0 x H = some [.d (.sl (.int .u32)) (limbs (val a / val b).toNat), .d (.sl (.int .u32)) (limbs (val a % val b).toNat)] := by
      intro H H0 H1 HW
      have d0 : 0 ≤ H / x2 := Int.ediv_nonneg H0 (by omega)
      have d1 : H / x2 ≤ H := Int.ediv_le_self _ H0
      have hbyV : ∀ d : Int, 0 ≤ d → d < 1000000000 → byP (limbs V.toNat) d := fun d h1 h2 => ⟨⟨limbs_lim _, by omega⟩, h1, h2⟩
      by_cases hc : H / x2 > 999999999
      · obtain ⟨q, hq⟩ := hdig 999999999 (Nat.le_refl _) (by rw [show V * (((999999999 : Nat) : Int) + 1) = 1000000000 * V by omega]; exact WV)
        refine ⟨q, ?_⟩
        unfold qprt_tail
        simp only [qsc_fold, hV]
        rw [wr64 (x := x2) (by omega) (by omega), dF (show ¬ x2 = 0 by omega), tdivP H0, wr64 (x := H / x2) (by omega) (by omega), dT hc, wr32 (x := 999999999) (by decide) (by decide), dT (hbyV 999999999 (by decide) (by decide)), val_limbs (v := V) (by omega)]
        exact hq
      · obtain ⟨q, hq⟩ := hdig (H / x2).toNat (by omega) (by rw [show (((H / x2).toNat : Nat) : Int) = H / x2 by omega]; exact digit_ok hx2.1 HW (pw_pos n) hxp rfl H0)
        rw [show (((H / x2).toNat : Nat) : Int) = H / x2 by omega] at hq
        refine ⟨q, ?_⟩
        unfold qprt_tail
        simp only [qsc_fold, hV]
        rw [wr64 (x := x2) (by omega) (by omega), dF (show ¬ x2 = 0 by omega), tdivP H0, wr64 (x := H / x2) (by omega) (by omega), dF hc, wr32 (x := H / x2) (by omega) (by omega), dT (hbyV (H / x2) (by omega) (by omega)), val_limbs (v := V) (by omega)]
        exact hq
    have hWlim := limbs_lim (x + 1000000000 * R).toNat
    have hWval := val_limbs W0
    have hsplit := val_split (limbs (x + 1000000000 * R).toNat) n
    have htl := val_lt (hWlim.take n)
    have hpre : ∀ H, val ((limbs (x + 1000000000 * R).toNat).drop n) = H → x + 1000000000 * R < (H + 1) * pw n := by
      intro H hH
      rw [hH, hWval] at hsplit
      have hm : (limbs (x + 1000000000 * R).toNat |>.take n).length ≤ n := by rw [List.length_take]; omega
      have := pw_mono hm
      rcases Nat.lt_or_ge n (limbs (x + 1000000000 * R).toNat).length with h | h
      · rw [Nat.min_eq_left (by omega)] at hsplit
        rw [Int.add_mul, Int.mul_comm H, Int.one_mul]
        omega
      · rw [List.drop_eq_nil_of_le h] at hH
        have hH0 : H = 0 := by rw [← hH]; rfl
        subst hH0
        rw [Int.mul_zero] at hsplit
        omega
    have hstep : ∀ (H : Int) (q : Nat), qprt_tail (qprt_C.k q) a b x1 x2 (limbs R.toNat) ((i : Int)) r0 x H = some [.d (.sl (.int .u32)) (limbs (val a / val b).toNat), .d (.sl (.int .u32)) (limbs (val a % val b).toNat)] → True := fun _ _ _ => trivial
    have hap : (([x] : List Int).length + (limbs R.toNat).length) * 4 ≤ 140737488355328 ∧ ([x] : List Int).length + (limbs R.toNat).length ≤ 140737488355328 := by simp only [List.length_singleton]; omega
    have hlS : LimS ([x] ++ limbs R.toNat) := ⟨(Lim.cons ⟨hx.1, hx.2⟩ Lim.nil).append (limbs_lim _), by simp only [List.length_append, List.length_singleton]; omega⟩
    have hw1 : IntKind.i64.wrap (((n + 1 : Nat) : Int) - 1) = ((n : Nat) : Int) := by rw [wrap64 (by omega) (by omega)]; omega
    rcases Nat.lt_trichotomy (limbs (x + 1000000000 * R).toNat).length (n + 1) with hc | hc | hc
    · obtain ⟨q, hq⟩ := htail 0 (by omega) (by omega) (hpre 0 (by rw [List.drop_eq_nil_of_le (by omega)]; rfl))
      refine qprt_h30_s _ _ _ _ _ _ _ ⟨q, ?_⟩
      unfold qprt_h30_t
      rw [dT (show ((i + 1 : Nat) : Int) - 1 ≥ 0 by omega), show ((i + 1 : Nat) : Int) - 1 = (i : Int) by omega, qsc_fold, getI_nat, List.getElem?_eq_getElem hiU, hxi]
      dsimp only
      rw [dT hap, dT hlS, hWv, hV, hn]
      dsimp only
      rw [dF (show ¬ ((limbs (x + 1000000000 * R).toNat).length : Int) > ((n + 1 : Nat) : Int) by omega), dF (show ¬ ((limbs (x + 1000000000 * R).toNat).length : Int) ≥ ((n + 1 : Nat) : Int) by omega)]
      rw [← hV]
      exact hq
    · have hget : (limbs (x + 1000000000 * R).toNat)[n]? = some (limbs (x + 1000000000 * R).toNat)[n] := List.getElem?_eq_getElem (by omega)
      have hxn := hWlim.get (show n < (limbs (x + 1000000000 * R).toNat).length by omega)
      have hdrop : val ((limbs (x + 1000000000 * R).toNat).drop n) = (limbs (x + 1000000000 * R).toNat)[n] := by
        rw [drop_get (by omega), List.drop_eq_nil_of_le (by omega)]
        simp [val]
      obtain ⟨q, hq⟩ := htail (limbs (x + 1000000000 * R).toNat)[n] hxn.1 (by omega) (hpre _ hdrop)
      refine qprt_h30_s _ _ _ _ _ _ _ ⟨q, ?_⟩
      unfold qprt_h30_t
      rw [dT (show ((i + 1 : Nat) : Int) - 1 ≥ 0 by omega), show ((i + 1 : Nat) : Int) - 1 = (i : Int) by omega, qsc_fold, getI_nat, List.getElem?_eq_getElem hiU, hxi]
      dsimp only
      rw [dT hap, dT hlS, hWv, hV, hn]
      dsimp only
      rw [dF (show ¬ ((limbs (x + 1000000000 * R).toNat).length : Int) > ((n + 1 : Nat) : Int) by omega), dT (show ((limbs (x + 1000000000 * R).toNat).length : Int) ≥ ((n + 1 : Nat) : Int) by omega), hw1, getI_nat (limbs (x + 1000000000 * R).toNat) n, hget]
      dsimp only
      rw [Int.zero_add, wr64 (x := (limbs (x + 1000000000 * R).toNat)[n]) (by omega) (by omega), wr64 (x := (limbs (x + 1000000000 * R).toNat)[n]) (by omega) (by omega)]
      rw [← hV]
      exact hq
    · have hget : (limbs (x + 1000000000 * R).toNat)[n]? = some (limbs (x + 1000000000 * R).toNat)[n] := List.getElem?_eq_getElem (by omega)
      have hget1 : (limbs (x + 1000000000 * R).toNat)[n + 1]? = some (limbs (x + 1000000000 * R).toNat)[n + 1] := List.getElem?_eq_getElem (by omega)
      have hxn := hWlim.get (show n < (limbs (x + 1000000000 * R).toNat).length by omega)
      have hxn1 := hWlim.get (show n + 1 < (limbs (x + 1000000000 * R).toNat).length by omega)
      have hdrop : val ((limbs (x + 1000000000 * R).toNat).drop n) = (limbs (x + 1000000000 * R).toNat)[n + 1] * 1000000000 + (limbs (x + 1000000000 * R).toNat)[n] := by
        rw [drop_get (by omega), drop_get (by omega), List.drop_eq_nil_of_le (by omega)]
        simp only [val]
        omega
      obtain ⟨q, hq⟩ := htail ((limbs (x + 1000000000 * R).toNat)[n + 1] * 1000000000 + (limbs (x + 1000000000 * R).toNat)[n]) (by omega) (by omega) (hpre _ hdrop)
      refine qprt_h30_s _ _ _ _ _ _ _ ⟨q, ?_⟩
      unfold qprt_h30_t
      rw [dT (show ((i + 1 : Nat) : Int) - 1 ≥ 0 by omega), show ((i + 1 : Nat) : Int) - 1 = (i : Int) by omega, qsc_fold, getI_nat, List.getElem?_eq_getElem hiU, hxi]
      dsimp only
      rw [dT hap, dT hlS, hWv, hV, hn]
      dsimp only
      rw [dT (show ((limbs (x + 1000000000 * R).toNat).length : Int) > ((n + 1 : Nat) : Int) by omega), getI_nat (limbs (x + 1000000000 * R).toNat) (n + 1), hget1]
      dsimp only
      rw [dT (show ((limbs (x + 1000000000 * R).toNat).length : Int) ≥ ((n + 1 : Nat) : Int) by omega), hw1, getI_nat (limbs (x + 1000000000 * R).toNat) n, hget]
      dsimp only
      rw [wr64 (x := (limbs (x + 1000000000 * R).toNat)[n + 1]) (by omega) (by omega), wr64 (x := (limbs (x + 1000000000 * R).toNat)[n + 1] * 1000000000) (by omega) (by omega), wr64 (x := (limbs (x + 1000000000 * R).toNat)[n]) (by omega) (by omega), wr64 (x := (limbs (x + 1000000000 * R).toNat)[n + 1] * 1000000000 + (limbs (x + 1000000000 * R).toNat)[n]) (by omega) (by omega)]
      rw [← hV]
      exact hq
end
end Go.Proofs.YtcaiedfkohigjaaGreat
/- The reference's integers: parts as a whole, DivMod, GCD. -/
namespace Go.Proofs.YtcaiedfkohigjaaGreat
open Go.RowKit
theorem qprt_con (a : List Int) (b : List Int) (h : prtP a b) : Con Tryz.prog 133 [.d (.sl (.int .u32)) a, .d (.sl (.int .u32)) b] [.d (.sl (.int .u32)) (limbs (val a / val b).toNat), .d (.sl (.int .u32)) (limbs (val a % val b).toNat)] := by
  refine Ctx.Res.con (C := qprt_C) (ctx_ok envQg4_ok) ?_ (fn := Tryz.f133) (by kernel_rfl) (by kernel_rfl)
  obtain ⟨⟨ha, sa⟩, ⟨hb, sb⟩, hne⟩ := h
  have a0 := val_nonneg ha.1
  have b0 : 0 < val b := can_val_pos hb hne
  have hlen := List.length_pos_iff.2 hne
  have la := val_lt ha.1
  have lb := val_lt hb.1
  by_cases hsm : a.length ≤ 2 ∧ b.length ≤ 2
  · have p2 : pw 2 = 1000000000000000000 := by decide
    have m1 := pw_mono hsm.1
    have m2 := pw_mono hsm.2
    have q0 : 0 ≤ val a / val b := Int.ediv_nonneg a0 (by omega)
    have q1 : val a / val b ≤ val a := Int.ediv_le_self _ a0
    have r0 := Int.emod_nonneg (val a) (show val b ≠ 0 by omega)
    have r1 := Int.emod_lt_of_pos (val a) b0
    refine qprt_s _ _ ⟨0, ?_⟩
    unfold qprt_t
    rw [dT (show (a.length : Int) ≤ 2 by omega), dT (show (b.length : Int) ≤ 2 by omega), dT (show shtP a from ⟨⟨ha.1, by omega⟩, by omega⟩), dT (show shtP b from ⟨⟨hb.1, by omega⟩, by omega⟩), dF (show ¬ val b = 0 by omega), tdivP a0, tmodP a0, wr64 (x := val a / val b) q0 (by omega), dT (show u64P (val a / val b) from ⟨q0, by omega⟩), dT (show u64P (val a % val b) from ⟨r0, by omega⟩)]
  · obtain ⟨n, hn⟩ : ∃ n, b.length = n + 1 := ⟨b.length - 1, by omega⟩
    have hbn : n < b.length := by omega
    have ht := limbs_top hb hn
    have hbl := hb.1.get hbn
    obtain ⟨hs0, hs1, hs2⟩ := qsc_ok (x := b[n]) ht hbl.2
    have hVp : 0 < val b * qsc b[n] := Int.mul_pos b0 (by omega)
    have hVl : (limbs (val b * qsc b[n]).toNat).length ≤ 1000001 := by
      refine limbs_len_int (by omega) ?_
      have h1 : val b * qsc b[n] ≤ val b * 999999999 := Int.mul_le_mul_of_nonneg_left (by omega) (by omega)
      have h2 := pw_mono sb
      rw [pw_succ 1000000]
      omega
    have hUl : (limbs (val a * qsc b[n]).toNat).length ≤ a.length + 1 := by
      refine limbs_len_int (Int.mul_nonneg a0 (by omega)) ?_
      have h1 : val a * qsc b[n] ≤ val a * 999999999 := Int.mul_le_mul_of_nonneg_left (by omega) (by omega)
      rw [pw_succ]
      omega
    obtain ⟨m, x2, hm, hg, hx1, hx2, hxp⟩ := limbs_topq hVp
    obtain ⟨q, hq⟩ := qprt_outer a b b[n] x2 (val b * qsc b[n]) rfl ⟨hs1, hs2⟩ hVp hUl ⟨ha.1, sa⟩ hVl m hm ⟨hx1, hx2⟩ hxp (limbs (val a * qsc b[n]).toNat).length 0 (List.replicate (a.length + 1) 0) (Nat.le_refl _) (by omega) hVp (by simp) (Lim.rep _) (fun k hk _ => by simp) (fun k hk _ => by simp) (by
      rw [List.take_length, val_limbs (Int.mul_nonneg a0 (by omega)), val_rep]; omega)
    refine qprt_s _ _ ⟨q, ?_⟩
    have hw1 : IntKind.i64.wrap ((b.length : Int) - 1) = (n : Int) := by rw [wrap64 (by omega) (by omega)]; omega
    have hx1w : ¬ IntKind.u64.wrap (IntKind.u64.wrap b[n] + 1) = 0 := by rw [wr64 (x := b[n]) (by omega) (by omega), wr64 (by omega) (by omega)]; omega
    have hbyb : byP b (qsc b[n]) := ⟨⟨hb.1, by omega⟩, by omega, hs2⟩
    have hbya : byP a (qsc b[n]) := ⟨⟨ha.1, by omega⟩, by omega, hs2⟩
    have hw2 : IntKind.i64.wrap (((m + 1 : Nat) : Int) - 1) = (m : Int) := by rw [wrap64 (by omega) (by omega)]; omega
    have hsub : (match getI b (IntKind.i64.wrap ((b.length : Int) - 1)) with | some x1 => (match decide (IntKind.u64.wrap ((IntKind.u64.wrap x1) + 1) = (0 : Int)) with | true => none | false => (match decide (byP b (qsc x1)) with | true => (match getI (limbs (val b * (qsc x1)).toNat) (IntKind.i64.wrap (((limbs (val b * (qsc x1)).toNat).length : Int) - 1)) with | some x2 => (match decide ((0 : Int) ≤ IntKind.i64.wrap ((a.length : Int) + 1) ∧ (IntKind.i64.wrap ((a.length : Int) + 1)) * ((4 : Nat) : Int) ≤ 140737488355328 ∧ IntKind.i64.wrap ((a.length : Int) + 1) ≤ 140737488355328) with | true => (match decide (byP a (qsc x1)) with | true => (match decide ((0 : Int) ≤ 0 ∧ 0 ≤ ((limbs (val a * (qsc x1)).toNat).length : Int) ∧ ((limbs (val a * (qsc x1)).toNat).length : Int) ≤ ((List.replicate (IntKind.i64.wrap ((a.length : Int) + 1)).toNat (0 : Int)).length : Int)) with | true => (qprt_C.k q) 30 (qprt_h30 a b x1 x2 ([]) (IntKind.i64.wrap (((limbs (val a * (qsc x1)).toNat).length : Int) - 1)) (List.replicate (IntKind.i64.wrap ((a.length : Int) + 1)).toNat (0 : Int))) | false => none) | false => none) | false => none) | none => none) | false => none)) | none => none) = some [.d (.sl (.int .u32)) (limbs (val a / val b).toNat), .d (.sl (.int .u32)) (limbs (val a % val b).toNat)] := by
      rw [hw1, getI_nat, List.getElem?_eq_getElem hbn]
      dsimp only
      rw [dF hx1w, dT hbyb, hm, hw2, getI_nat, hg]
      dsimp only
      rw [wrapS (k := a.length) (by omega), mk_ok (n := a.length + 1) (by omega), dT hbya, toNat_nat, List.length_replicate, dT (show (0 : Int) ≤ 0 ∧ (0 : Int) ≤ ((limbs (val a * qsc b[n]).toNat).length : Int) ∧ ((limbs (val a * qsc b[n]).toNat).length : Int) ≤ ((a.length + 1 : Nat) : Int) from ⟨by omega, by omega, by omega⟩), wrap64 (x := ((limbs (val a * qsc b[n]).toNat).length : Int) - 1) (by omega) (by omega)]
      exact hq
    unfold qprt_t
    by_cases h1 : a.length ≤ 2
    · rw [dT (show (a.length : Int) ≤ 2 by omega), dF (show ¬ (b.length : Int) ≤ 2 by omega)]
      exact hsub
    · rw [dF (show ¬ (a.length : Int) ≤ 2 by omega)]
      exact hsub
def qprt_sp : Spec := { keep := false, run := fun _ args k => match args with
  | [.d (.sl (.int .u32)) a, .d (.sl (.int .u32)) b] => match decide (prtP a b) with
    | true => k [RV.d (.sl (.int .u32)) (limbs (val a / val b).toNat), RV.d (.sl (.int .u32)) (limbs (val a % val b).toNat)]
    | false => none
  | _ => none }
theorem qprt_spec : callable Tryz.prog 133 = true ∧ SpecOk Tryz.prog 133 qprt_sp ∧ ∀ g, qprt_sp.mut_ = some g → MCon Tryz.prog 133 g := by
  refine ⟨by kernel_rfl, fun R args k r h => ?_, fun g h => by simp [qprt_sp] at h⟩
  unfold qprt_sp at h
  dsimp only at h
  split at h <;> try (cases h; done)
  split at h <;> try (cases h; done)
  rename_i hd
  exact ⟨_, h, qprt_con _ _ (of_decide_eq_true hd)⟩

def qfri_sp : Spec := { keep := false, run := fun _ args k => match args with
  | [.d (.int .i64) n] => match decide (i64P n) with
    | true => k [RV.d (.st (.pair .bool (.sl (.int .u32)))) (encI n)]
    | false => none
  | _ => none }
theorem qfri_spec : callable Tryz.prog 65 = true ∧ SpecOk Tryz.prog 65 qfri_sp ∧ ∀ g, qfri_sp.mut_ = some g → MCon Tryz.prog 65 g := by
  refine ⟨by kernel_rfl, fun R args k r h => ?_, fun g h => by simp [qfri_sp] at h⟩
  unfold qfri_sp at h
  dsimp only at h
  split at h <;> try (cases h; done)
  split at h <;> try (cases h; done)
  rename_i hd
  exact ⟨_, h, qfri_con _ (of_decide_eq_true hd)⟩

def qisu_sp : Spec := { keep := false, run := fun _ args k => match args with
  | [.d (.st (.pair .bool (.sl (.int .u32)))) x, .d (.st (.pair .bool (.sl (.int .u32)))) y] => match decide (okI x ∧ okI y) with
    | true => k [RV.d (.st (.pair .bool (.sl (.int .u32)))) (encI (decI x - decI y))]
    | false => none
  | _ => none }
theorem qisu_spec : callable Tryz.prog 135 = true ∧ SpecOk Tryz.prog 135 qisu_sp ∧ ∀ g, qisu_sp.mut_ = some g → MCon Tryz.prog 135 g := by
  refine ⟨by kernel_rfl, fun R args k r h => ?_, fun g h => by simp [qisu_sp] at h⟩
  unfold qisu_sp at h
  dsimp only at h
  split at h <;> try (cases h; done)
  split at h <;> try (cases h; done)
  rename_i hd
  exact ⟨_, h, qisu_con _ _ (of_decide_eq_true hd)⟩

def envQg5 : Env := [(124, qtrm_sp), (95, qlbs_sp), (134, qsht_sp), (90, qcpr_sp), (153, qby_sp), (154, qmns_sp), (133, qprt_sp), (65, qfri_sp), (135, qisu_sp), (91, qsgd_sp), (136, qiad_sp)]
theorem envQg5_ok : EnvAll Tryz.prog envQg5 := ⟨qtrm_spec, qlbs_spec, qsht_spec, qcpr_spec, qby_spec, qmns_spec, qprt_spec, qfri_spec, qisu_spec, qsgd_spec, qiad_spec, trivial⟩
def qidm_nt : NT := []
noncomputable def qidm_C : Ctx := ⟨Tryz.prog, ft, tys, envQg5, qidm_nt⟩
noncomputable def qidm_t (_k : Nat → Cfg → Option (List RV)) (x : Bool × List Int) (y : Bool × List Int) : Option (List RV) := match (y.2.length : Int) == 0 with | true => some [RV.d (.st (.pair .bool (.sl (.int .u32)))) (false, []), RV.d (.st (.pair .bool (.sl (.int .u32)))) (false, []), RV.d (.int .i64) 6] | false => (match decide (prtP x.2 y.2) with | true => bothV (match decide (LimS (limbs (val x.2 / val y.2).toNat)) with | true => bothV (match decide (LimS (limbs (val x.2 % val y.2).toNat)) with | true => dup (.b .l .l) (match decide (((limbs (val x.2 % val y.2).toNat).length : Int) > 0) with | true => (match !(x.1 == y.1) with | true => (match decide (i64P (1 : Int)) with | true => (match decide (okI (encI (sgnI (!(x.1 == y.1)) (val (limbs (val x.2 / val y.2).toNat)))) ∧ okI (encI (1 : Int))) with | true => (match decide (okI (encI (sgnI x.1 (val (limbs (val x.2 % val y.2).toNat)))) ∧ okI y) with | true => dup (.b .l .l) (some [RV.d (.st (.pair .bool (.sl (.int .u32)))) (encI (decI (encI (sgnI (!(x.1 == y.1)) (val (limbs (val x.2 / val y.2).toNat)))) - decI (encI (1 : Int)))), RV.d (.st (.pair .bool (.sl (.int .u32)))) (encI (decI (encI (sgnI x.1 (val (limbs (val x.2 % val y.2).toNat)))) + decI y)), RV.d (.int .i64) 0]) | false => none) | false => none) | false => none) | false => dup (.b .l .l) (some [RV.d (.st (.pair .bool (.sl (.int .u32)))) (encI (sgnI (!(x.1 == y.1)) (val (limbs (val x.2 / val y.2).toNat)))), RV.d (.st (.pair .bool (.sl (.int .u32)))) (encI (sgnI x.1 (val (limbs (val x.2 % val y.2).toNat)))), RV.d (.int .i64) 0])) | false => dup (.b .l .l) (some [RV.d (.st (.pair .bool (.sl (.int .u32)))) (encI (sgnI (!(x.1 == y.1)) (val (limbs (val x.2 / val y.2).toNat)))), RV.d (.st (.pair .bool (.sl (.int .u32)))) (encI (sgnI x.1 (val (limbs (val x.2 % val y.2).toNat)))), RV.d (.int .i64) 0])) | false => none) (dup (.b (.b .l .l) (.b .l .l)) (match decide (LimS (limbs (val x.2 % val y.2).toNat)) with | true => (match decide (((limbs (val x.2 % val y.2).toNat).length : Int) > 0) with | true => (match !(x.1 == y.1) with | true => (match decide (i64P (1 : Int)) with | true => (match decide (okI (encI (sgnI (!(x.1 == y.1)) (val (limbs (val x.2 / val y.2).toNat)))) ∧ okI (encI (1 : Int))) with | true => (match decide (okI (encI (sgnI x.1 (val (limbs (val x.2 % val y.2).toNat)))) ∧ okI y) with | true => dup (.b .l .l) (some [RV.d (.st (.pair .bool (.sl (.int .u32)))) (encI (decI (encI (sgnI (!(x.1 == y.1)) (val (limbs (val x.2 / val y.2).toNat)))) - decI (encI (1 : Int)))), RV.d (.st (.pair .bool (.sl (.int .u32)))) (encI (decI (encI (sgnI x.1 (val (limbs (val x.2 % val y.2).toNat)))) + decI y)), RV.d (.int .i64) 0]) | false => none) | false => none) | false => none) | false => dup (.b .l .l) (some [RV.d (.st (.pair .bool (.sl (.int .u32)))) (encI (sgnI (!(x.1 == y.1)) (val (limbs (val x.2 / val y.2).toNat)))), RV.d (.st (.pair .bool (.sl (.int .u32)))) (encI (sgnI x.1 (val (limbs (val x.2 % val y.2).toNat)))), RV.d (.int .i64) 0])) | false => dup (.b .l .l) (some [RV.d (.st (.pair .bool (.sl (.int .u32)))) (encI (sgnI (!(x.1 == y.1)) (val (limbs (val x.2 / val y.2).toNat)))), RV.d (.st (.pair .bool (.sl (.int .u32)))) (encI (sgnI x.1 (val (limbs (val x.2 % val y.2).toNat)))), RV.d (.int .i64) 0])) | false => none)) | false => none) (dup (.b .l .l) (bothV (match decide (LimS (limbs (val x.2 / val y.2).toNat)) with | true => dup (.b .l .l) (match decide (LimS (limbs (val x.2 % val y.2).toNat)) with | true => (match decide (((limbs (val x.2 % val y.2).toNat).length : Int) > 0) with | true => (match !(x.1 == y.1) with | true => (match decide (i64P (1 : Int)) with | true => (match decide (okI (encI (sgnI (!(x.1 == y.1)) (val (limbs (val x.2 / val y.2).toNat)))) ∧ okI (encI (1 : Int))) with | true => (match decide (okI (encI (sgnI x.1 (val (limbs (val x.2 % val y.2).toNat)))) ∧ okI y) with | true => dup (.b .l .l) (some [RV.d (.st (.pair .bool (.sl (.int .u32)))) (encI (decI (encI (sgnI (!(x.1 == y.1)) (val (limbs (val x.2 / val y.2).toNat)))) - decI (encI (1 : Int)))), RV.d (.st (.pair .bool (.sl (.int .u32)))) (encI (decI (encI (sgnI x.1 (val (limbs (val x.2 % val y.2).toNat)))) + decI y)), RV.d (.int .i64) 0]) | false => none) | false => none) | false => none) | false => dup (.b .l .l) (some [RV.d (.st (.pair .bool (.sl (.int .u32)))) (encI (sgnI (!(x.1 == y.1)) (val (limbs (val x.2 / val y.2).toNat)))), RV.d (.st (.pair .bool (.sl (.int .u32)))) (encI (sgnI x.1 (val (limbs (val x.2 % val y.2).toNat)))), RV.d (.int .i64) 0])) | false => dup (.b .l .l) (some [RV.d (.st (.pair .bool (.sl (.int .u32)))) (encI (sgnI (!(x.1 == y.1)) (val (limbs (val x.2 / val y.2).toNat)))), RV.d (.st (.pair .bool (.sl (.int .u32)))) (encI (sgnI x.1 (val (limbs (val x.2 % val y.2).toNat)))), RV.d (.int .i64) 0])) | false => none) | false => none) (match decide (LimS (limbs (val x.2 / val y.2).toNat)) with | true => (match decide (LimS (limbs (val x.2 % val y.2).toNat)) with | true => (match decide (((limbs (val x.2 % val y.2).toNat).length : Int) > 0) with | true => (match !(x.1 == y.1) with | true => (match decide (i64P (1 : Int)) with | true => (match decide (okI (encI (sgnI (!(x.1 == y.1)) (val (limbs (val x.2 / val y.2).toNat)))) ∧ okI (encI (1 : Int))) with | true => (match decide (okI (encI (sgnI x.1 (val (limbs (val x.2 % val y.2).toNat)))) ∧ okI y) with | true => dup (.b .l .l) (some [RV.d (.st (.pair .bool (.sl (.int .u32)))) (encI (decI (encI (sgnI (!(x.1 == y.1)) (val (limbs (val x.2 / val y.2).toNat)))) - decI (encI (1 : Int)))), RV.d (.st (.pair .bool (.sl (.int .u32)))) (encI (decI (encI (sgnI x.1 (val (limbs (val x.2 % val y.2).toNat)))) + decI y)), RV.d (.int .i64) 0]) | false => none) | false => none) | false => none) | false => dup (.b .l .l) (some [RV.d (.st (.pair .bool (.sl (.int .u32)))) (encI (sgnI (!(x.1 == y.1)) (val (limbs (val x.2 / val y.2).toNat)))), RV.d (.st (.pair .bool (.sl (.int .u32)))) (encI (sgnI x.1 (val (limbs (val x.2 % val y.2).toNat)))), RV.d (.int .i64) 0])) | false => dup (.b .l .l) (some [RV.d (.st (.pair .bool (.sl (.int .u32)))) (encI (sgnI (!(x.1 == y.1)) (val (limbs (val x.2 / val y.2).toNat)))), RV.d (.st (.pair .bool (.sl (.int .u32)))) (encI (sgnI x.1 (val (limbs (val x.2 % val y.2).toNat)))), RV.d (.int .i64) 0])) | false => none) | false => none))) | false => none)
theorem qidm_eq (k : Nat → Cfg → Option (List RV)) (x : Bool × List Int) (y : Bool × List Int) : go Tryz.prog ft tys envQg5 qidm_nt k 4000 (start 103 [.d (.st (.pair .bool (.sl (.int .u32)))) x, .d (.st (.pair .bool (.sl (.int .u32)))) y]) (.node 0) = qidm_t k x y := (go2_eq _ _ _ _ _ _ _ _ _).symm.trans (show go2 Tryz.prog ft tys envQg5 qidm_nt k 4000 (start 103 [.d (.st (.pair .bool (.sl (.int .u32)))) x, .d (.st (.pair .bool (.sl (.int .u32)))) y]) (.node 0) = qidm_t k x y by kernel_rfl)
theorem qidm_s (x : Bool × List Int) (y : Bool × List Int) {rX : List RV} (hX : ∃ nX, qidm_t (qidm_C.k nX) x y = some rX) : qidm_C.Res 103 [.d (.st (.pair .bool (.sl (.int .u32)))) x, .d (.st (.pair .bool (.sl (.int .u32)))) y] rX := by
  obtain ⟨nX, hX⟩ := hX
  exact ⟨nX, (qidm_eq _ x y).trans hX⟩
def qgcd_nt : NT := [((102, 6), { keep := [4, 5, 6], pure_ := [(5, .int .u32), (6, .int .u32)], hl := 3 }), ((102, 29), { keep := [4, 9, 10], hl := 3 })]
noncomputable def qgcd_C : Ctx := ⟨Tryz.prog, ft, tys, envQg5, qgcd_nt⟩
def qgcd_h6 (x : Bool × List Int) (y : Bool × List Int) (s5 : List Int) (s6 : List Int) : Cfg := ⟨102, [.blk 0, .seq 17], [(4, .box 2 0), (5, .d (.sl (.int .u32)) s5), (6, .d (.sl (.int .u32)) s6)], [.box 39 [SB x.1, .d (.sl (.int .u32)) x.2], .box 39 [SB y.1, .d (.sl (.int .u32)) y.2], .box 39 [SB false, .nil]], 0, []⟩
def qgcd_h29 (x : Bool × List Int) (y : Bool × List Int) (s9 : Int) (s10 : Int) : Cfg := ⟨102, [.blk 2, .seq 38], [(4, .box 2 0), (9, .d (.int .u64) s9), (10, .d (.int .u64) s10)], [.box 39 [SB x.1, .d (.sl (.int .u32)) x.2], .box 39 [SB y.1, .d (.sl (.int .u32)) y.2], .box 39 [SB false, .nil]], 0, []⟩
noncomputable def qgcd_t (k : Nat → Cfg → Option (List RV)) (x : Bool × List Int) (y : Bool × List Int) : Option (List RV) := k 6 (qgcd_h6 x y x.2 y.2)
theorem qgcd_eq (k : Nat → Cfg → Option (List RV)) (x : Bool × List Int) (y : Bool × List Int) : go Tryz.prog ft tys envQg5 qgcd_nt k 4000 (start 102 [.d (.st (.pair .bool (.sl (.int .u32)))) x, .d (.st (.pair .bool (.sl (.int .u32)))) y]) (.node 0) = qgcd_t k x y := (go2_eq _ _ _ _ _ _ _ _ _).symm.trans (show go2 Tryz.prog ft tys envQg5 qgcd_nt k 4000 (start 102 [.d (.st (.pair .bool (.sl (.int .u32)))) x, .d (.st (.pair .bool (.sl (.int .u32)))) y]) (.node 0) = qgcd_t k x y by kernel_rfl)
theorem qgcd_s (x : Bool × List Int) (y : Bool × List Int) {rX : List RV} (hX : ∃ nX, qgcd_t (qgcd_C.k nX) x y = some rX) : qgcd_C.Res 102 [.d (.st (.pair .bool (.sl (.int .u32)))) x, .d (.st (.pair .bool (.sl (.int .u32)))) y] rX := by
  obtain ⟨nX, hX⟩ := hX
  exact ⟨nX, (qgcd_eq _ x y).trans hX⟩
noncomputable def qgcd_h6_t (k : Nat → Cfg → Option (List RV)) (x : Bool × List Int) (y : Bool × List Int) (s5 : List Int) (s6 : List Int) : Option (List RV) := match decide ((s6.length : Int) > 0) with | true => (match decide ((s5.length : Int) > 2) with | true => (match decide (prtP s5 s6) with | true => k 6 (qgcd_h6 x y s6 (limbs (val s5 % val s6).toNat)) | false => none) | false => (match decide ((s6.length : Int) > 2) with | true => (match decide (prtP s5 s6) with | true => k 6 (qgcd_h6 x y s6 (limbs (val s5 % val s6).toNat)) | false => none) | false => (match (s6.length : Int) == 0 with | true => (match decide (LimS s5) with | true => some [RV.d (.st (.pair .bool (.sl (.int .u32)))) (encI (sgnI false (val s5)))] | false => none) | false => (match decide (shtP s5) with | true => (match decide (shtP s6) with | true => k 29 (qgcd_h29 x y (val s5) (val s6)) | false => none) | false => none)))) | false => (match (s6.length : Int) == 0 with | true => (match decide (LimS s5) with | true => some [RV.d (.st (.pair .bool (.sl (.int .u32)))) (encI (sgnI false (val s5)))] | false => none) | false => (match decide (shtP s5) with | true => (match decide (shtP s6) with | true => k 29 (qgcd_h29 x y (val s5) (val s6)) | false => none) | false => none))
theorem qgcd_h6_eq (k : Nat → Cfg → Option (List RV)) (x : Bool × List Int) (y : Bool × List Int) (s5 : List Int) (s6 : List Int) : go Tryz.prog ft tys envQg5 qgcd_nt k 4000 { qgcd_h6 x y s5 s6 with K := .lp 6 :: (qgcd_h6 x y s5 s6).K } (.node 7) = qgcd_h6_t k x y s5 s6 := (go2_eq _ _ _ _ _ _ _ _ _).symm.trans (show go2 Tryz.prog ft tys envQg5 qgcd_nt k 4000 { qgcd_h6 x y s5 s6 with K := .lp 6 :: (qgcd_h6 x y s5 s6).K } (.node 7) = qgcd_h6_t k x y s5 s6 by kernel_rfl)
theorem qgcd_h6_s (x : Bool × List Int) (y : Bool × List Int) (s5 : List Int) (s6 : List Int) {rX : List RV} (hX : ∃ nX, qgcd_h6_t (qgcd_C.k nX) x y s5 s6 = some rX) : qgcd_C.Runs 6 (qgcd_h6 x y s5 s6) rX := by
  obtain ⟨nX, hX⟩ := hX
  exact ⟨nX + 1, (qgcd_h6_eq _ x y s5 s6).trans hX⟩
theorem qgcd_h6_S (x : Bool × List Int) (y : Bool × List Int) (s5 : List Int) (s6 : List Int) {rX : List RV} (hX : ∃ n0, ∀ n, n0 ≤ n → qgcd_h6_t (qgcd_C.k n) x y s5 s6 = some rX) : qgcd_C.RunsE 6 (qgcd_h6 x y s5 s6) rX := by
  obtain ⟨n0, hX⟩ := hX
  refine ⟨n0 + 1, fun n hn => ?_⟩
  obtain ⟨q, rfl⟩ : ∃ q, n = q + 1 := ⟨n - 1, by omega⟩
  exact (qgcd_h6_eq _ x y s5 s6).trans (hX q (by omega))
noncomputable def qgcd_h29_t (k : Nat → Cfg → Option (List RV)) (x : Bool × List Int) (y : Bool × List Int) (s9 : Int) (s10 : Int) : Option (List RV) := match decide (s10 > 0) with | true => (match decide (s10 = (0 : Int)) with | true => none | false => k 29 (qgcd_h29 x y s10 (Int.tmod s9 s10))) | false => (match decide (u64P s9) with | true => (match decide (LimS (limbs s9.toNat)) with | true => some [RV.d (.st (.pair .bool (.sl (.int .u32)))) (encI (sgnI false (val (limbs s9.toNat))))] | false => none) | false => none)
theorem qgcd_h29_eq (k : Nat → Cfg → Option (List RV)) (x : Bool × List Int) (y : Bool × List Int) (s9 : Int) (s10 : Int) : go Tryz.prog ft tys envQg5 qgcd_nt k 4000 { qgcd_h29 x y s9 s10 with K := .lp 29 :: (qgcd_h29 x y s9 s10).K } (.node 30) = qgcd_h29_t k x y s9 s10 := (go2_eq _ _ _ _ _ _ _ _ _).symm.trans (show go2 Tryz.prog ft tys envQg5 qgcd_nt k 4000 { qgcd_h29 x y s9 s10 with K := .lp 29 :: (qgcd_h29 x y s9 s10).K } (.node 30) = qgcd_h29_t k x y s9 s10 by kernel_rfl)
theorem qgcd_h29_s (x : Bool × List Int) (y : Bool × List Int) (s9 : Int) (s10 : Int) {rX : List RV} (hX : ∃ nX, qgcd_h29_t (qgcd_C.k nX) x y s9 s10 = some rX) : qgcd_C.Runs 29 (qgcd_h29 x y s9 s10) rX := by
  obtain ⟨nX, hX⟩ := hX
  exact ⟨nX + 1, (qgcd_h29_eq _ x y s9 s10).trans hX⟩
theorem qgcd_h29_S (x : Bool × List Int) (y : Bool × List Int) (s9 : Int) (s10 : Int) {rX : List RV} (hX : ∃ n0, ∀ n, n0 ≤ n → qgcd_h29_t (qgcd_C.k n) x y s9 s10 = some rX) : qgcd_C.RunsE 29 (qgcd_h29 x y s9 s10) rX := by
  obtain ⟨n0, hX⟩ := hX
  refine ⟨n0 + 1, fun n hn => ?_⟩
  obtain ⟨q, rfl⟩ : ∃ q, n = q + 1 := ⟨n - 1, by omega⟩
  exact (qgcd_h29_eq _ x y s9 s10).trans (hX q (by omega))
theorem qidm_con (x : Bool × List Int) (y : Bool × List Int) (h : idmP x y) : Con Tryz.prog 103 [.d (.st (.pair .bool (.sl (.int .u32)))) x, .d (.st (.pair .bool (.sl (.int .u32)))) y] [.d (.st (.pair .bool (.sl (.int .u32)))) (encI (decI x / decI y)), .d (.st (.pair .bool (.sl (.int .u32)))) (encI (decI x % decI y)), .d (.int .i64) 0] := by
  refine Ctx.Res.con (C := qidm_C) (ctx_ok envQg5_ok) (qidm_s _ _ ⟨0, ?_⟩) (fn := Tryz.f103) (by kernel_rfl) (by kernel_rfl)
  obtain ⟨hx, hy, hp⟩ := h
  obtain ⟨x0, x1, x2⟩ := okI_val hx
  obtain ⟨y0, y1, y2⟩ := okI_val hy
  have sx := hx.2.2
  have sy := hy.2.2
  have ey : y.1 = false := by
    cases e : y.1
    · rfl
    · rw [decI_sgn, e] at hp
      simp only [sgnI, cond_true] at hp
      omega
  have dy : decI y = val y.2 := by rw [decI_sgn, ey]; rfl
  rw [dy] at hp
  have hne : y.2 ≠ [] := fun e => by rw [y2] at e; omega
  have hprt : prtP x.2 y.2 := ⟨⟨hx.1, sx⟩, ⟨hy.1, sy⟩, hne⟩
  have hylen := List.length_pos_iff.2 hne
  have r0 := Int.emod_nonneg (val x.2) (show val y.2 ≠ 0 by omega)
  have r1 := Int.emod_lt_of_pos (val x.2) hp
  have q0 : 0 ≤ val x.2 / val y.2 := Int.ediv_nonneg x0 y0
  have q1 : val x.2 / val y.2 ≤ val x.2 := Int.ediv_le_self _ x0
  have vx := val_lt hx.1.1
  have vy := val_lt hy.1.1
  have mx := pw_mono sx
  have my := pw_mono sy
  have szq : szI (val x.2 / val y.2) ≤ 1000000 := szI_le (by have := pw_pos 1000000; omega) (by omega)
  have szr : szI (val x.2 % val y.2) ≤ 1000000 := szI_le (by have := pw_pos 1000000; omega) (by omega)
  have lq : (limbs (val x.2 / val y.2).toNat).length ≤ 1000000 := limbs_len_int q0 (by omega)
  have lr : (limbs (val x.2 % val y.2).toNat).length ≤ 1000000 := limbs_len_int r0 (by omega)
  unfold qidm_t
  simp only [dup_eq]
  rw [show ((y.2.length : Int) == 0) = false by simp; omega, dT hprt, dT (limS_limbs (n := (val x.2 / val y.2).toNat) (by omega)), dT (limS_limbs (n := (val x.2 % val y.2).toNat) (by omega)), dT (show i64P 1 by decide), val_limbs q0, val_limbs r0,
    dT (show okI (encI (sgnI (!(x.1 == y.1)) (val x.2 / val y.2))) ∧ okI (encI (1 : Int)) from ⟨okI_enc (by rw [sgn_sz]; exact szq), okI_one⟩), dT (show okI (encI (sgnI x.1 (val x.2 % val y.2))) ∧ okI y from ⟨okI_enc (by rw [sgn_sz]; exact szr), hy⟩)]
  simp only [dec_enc, dy, bothV_self]
  rw [decI_sgn x, ey]
  have hlen : (((limbs (val x.2 % val y.2).toNat).length : Int) > 0) ↔ 0 < val x.2 % val y.2 := by
    constructor
    · intro hl
      rcases Int.lt_or_le 0 (val x.2 % val y.2) with h | h
      · exact h
      · rw [show (val x.2 % val y.2).toNat = 0 by omega, limbs_zero] at hl
        simp at hl
    · intro hl
      have : limbs (val x.2 % val y.2).toNat ≠ [] := fun e => by rw [limbs_nil] at e; omega
      have := List.length_pos_iff.2 this
      omega
  obtain ⟨n1, n2⟩ := neg_div (a := val x.2) (b := val y.2) x0 hp
  rcases Int.lt_or_le 0 (val x.2 % val y.2) with hr | hr
  · rw [dT (hlen.2 hr)]
    cases x.1
    · rfl
    · obtain ⟨e1, e2⟩ := n2 hr
      simp only [sgnI, cond_true, Bool.not_false, show ((true == false) : Bool) = false from rfl]
      rw [e1, e2]
  · rw [dF (fun h' => by have := hlen.1 h'; omega)]
    dsimp only
    have e0 : val x.2 % val y.2 = 0 := by omega
    cases x.1
    · simp only [sgnI, cond_false, show ((false == false) : Bool) = true from rfl, Bool.not_true]
    · obtain ⟨e1, e2⟩ := n1 e0
      simp only [sgnI, cond_true, Bool.not_false, show ((true == false) : Bool) = false from rfl]
      rw [e1, e2, e0]
      rfl
theorem qgcd_word (x y : BI) (B : Nat) (hB : (B : Int) < 18446744073709551616) : ∀ (v u : Nat), u ≤ B → v ≤ B → qgcd_C.RunsE 29 (qgcd_h29 x y (u : Int) (v : Int)) [.d (.st (.pair .bool (.sl (.int .u32)))) (encI ((Nat.gcd u v : Nat) : Int))] := by
  intro v
  induction v using Nat.strongRecOn with
  | ind v ih =>
    intro u hu hv
    rcases Nat.eq_zero_or_pos v with h0 | h0
    · refine qgcd_h29_S _ _ _ _ ⟨0, fun n _ => ?_⟩
      have hp : u64P (u : Int) := ⟨by omega, by omega⟩
      have hl : (limbs u).length ≤ 3 := limbs_len_le (Int.lt_of_lt_of_le (show (u : Int) < 18446744073709551616 by omega) (by decide))
      unfold qgcd_h29_t
      rw [dF (show ¬ (v : Int) > 0 by omega), dT hp, Int.toNat_natCast, dT (limS_limbs (n := u) (by omega)), limbs_val, show Nat.gcd u v = u by rw [h0]; exact Nat.gcd_zero_right u]
      rfl
    · obtain ⟨n0, hn⟩ := ih (u % v) (Nat.mod_lt _ h0) v hv (Nat.le_trans (Nat.le_of_lt (Nat.mod_lt _ h0)) hv)
      refine qgcd_h29_S _ _ _ _ ⟨n0, fun n hn' => ?_⟩
      unfold qgcd_h29_t
      rw [dT (show (v : Int) > 0 by omega), dF (show ¬ (v : Int) = 0 by omega), tmodP (by omega)]
      dsimp only
      rw [show ((u : Int) % (v : Int)) = ((u % v : Nat) : Int) by simp, Nat.gcd_comm u v, Nat.gcd_rec v u, Nat.gcd_comm]
      exact hn n hn'
theorem len2_lt {u : Nat} (h : (limbs u).length ≤ 2) : (u : Int) < 1000000000000000000 := by
  have h1 := val_lt (limbs_lim u)
  rw [limbs_val] at h1
  have h2 := pw_mono h
  have : pw 2 = 1000000000000000000 := by decide
  omega
theorem qgcd_loop (x y : BI) : ∀ (v u : Nat), (limbs u).length ≤ 1000000 → (limbs v).length ≤ 1000000 →
    qgcd_C.RunsE 6 (qgcd_h6 x y (limbs u) (limbs v)) [.d (.st (.pair .bool (.sl (.int .u32)))) (encI ((Nat.gcd u v : Nat) : Int))] := by
  intro v
  induction v using Nat.strongRecOn with
  | ind v ih =>
    intro u hu hv
    rcases Nat.eq_zero_or_pos v with h0 | h0
    · refine qgcd_h6_S _ _ _ _ ⟨0, fun n _ => ?_⟩
      unfold qgcd_h6_t
      rw [h0, Nat.gcd_zero_right, dF (show ¬ ((limbs 0).length : Int) > 0 by decide), show (((limbs 0).length : Int) == 0) = true by decide]
      dsimp only
      rw [dT (limS_limbs (n := u) (by omega)), limbs_val]
      rfl
    · have hne : limbs v ≠ [] := fun e => by rw [limbs_nil] at e; omega
      have hl := List.length_pos_iff.2 hne
      have hm := Nat.mod_lt u h0
      have hms : (limbs (u % v)).length ≤ 1000000 := limbs_len_le (by
        have := val_lt (limbs_lim v)
        rw [limbs_val] at this
        have := pw_mono hv
        omega)
      have hz : (((limbs v).length : Int) == 0) = false := by simp; omega
      have hprt : prtP (limbs u) (limbs v) := ⟨⟨limbs_can _, hu⟩, ⟨limbs_can _, hv⟩, hne⟩
      have hmod : (val (limbs u) % val (limbs v)).toNat = u % v := by rw [limbs_val, limbs_val]; omega
      by_cases hsm : (limbs u).length ≤ 2 ∧ (limbs v).length ≤ 2
      · have lu := len2_lt hsm.1
        have lv := len2_lt hsm.2
        obtain ⟨n0, hn⟩ := qgcd_word x y 1000000000000000000 (by decide) v u (by omega) (by omega)
        refine qgcd_h6_S _ _ _ _ ⟨n0, fun n hn' => ?_⟩
        unfold qgcd_h6_t
        rw [dT (show ((limbs v).length : Int) > 0 by omega), dF (show ¬ ((limbs u).length : Int) > 2 by omega), dF (show ¬ ((limbs v).length : Int) > 2 by omega), hz, dT (show shtP (limbs u) from ⟨limS_limbs (by omega), by rw [limbs_val]; omega⟩), dT (show shtP (limbs v) from ⟨limS_limbs (by omega), by rw [limbs_val]; omega⟩), limbs_val, limbs_val]
        exact hn n hn'
      · obtain ⟨n0, hn⟩ := ih (u % v) hm v hv hms
        refine qgcd_h6_S _ _ _ _ ⟨n0, fun n hn' => ?_⟩
        have := hn n hn'
        rw [show Nat.gcd v (u % v) = Nat.gcd u v by rw [Nat.gcd_comm u v, Nat.gcd_rec v u, Nat.gcd_comm]] at this
        unfold qgcd_h6_t
        rw [dT (show ((limbs v).length : Int) > 0 by omega), dT hprt, hmod]
        by_cases h2 : (limbs u).length ≤ 2
        · rw [dF (show ¬ ((limbs u).length : Int) > 2 by omega), dT (show ((limbs v).length : Int) > 2 by omega)]
          exact this
        · rw [dT (show ((limbs u).length : Int) > 2 by omega)]
          exact this
theorem qgcd_con (x : Bool × List Int) (y : Bool × List Int) (h : okI x ∧ okI y) : Con Tryz.prog 102 [.d (.st (.pair .bool (.sl (.int .u32)))) x, .d (.st (.pair .bool (.sl (.int .u32)))) y] [.d (.st (.pair .bool (.sl (.int .u32)))) (encI ((Int.gcd (decI x) (decI y) : Nat) : Int))] := by
  refine Ctx.Res.con (C := qgcd_C) (ctx_ok envQg5_ok) ?_ (fn := Tryz.f102) (by kernel_rfl) (by kernel_rfl)
  obtain ⟨hx, hy⟩ := h
  obtain ⟨x0, _, _⟩ := okI_val hx
  obtain ⟨y0, _, _⟩ := okI_val hy
  have ex : ((decI x).natAbs : Int) = val x.2 := by rw [decI_sgn]; unfold sgnI; cases x.1 <;> simp <;> omega
  have ey : ((decI y).natAbs : Int) = val y.2 := by rw [decI_sgn]; unfold sgnI; cases y.1 <;> simp <;> omega
  have cx := can_eq hx.1
  have cy := can_eq hy.1
  rw [show (val x.2).toNat = (decI x).natAbs by omega] at cx
  rw [show (val y.2).toNat = (decI y).natAbs by omega] at cy
  obtain ⟨n1, h1⟩ := qgcd_loop x y (decI y).natAbs (decI x).natAbs (by rw [← cx]; exact hx.2.2) (by rw [← cy]; exact hy.2.2)
  rw [← cx, ← cy] at h1
  exact qgcd_s _ _ ⟨n1, h1 n1 (Nat.le_refl _)⟩
end Go.Proofs.YtcaiedfkohigjaaGreat
/- Codes of data over fractions, and sizes found by instance search. -/
namespace Go.Proofs.YtcaiedfkohigjaaGreat
abbrev tI : Ty := .st (.pair .bool (.sl (.int .u32)))
abbrev tR : Ty := .st (.pair tI tI)
abbrev tV : Ty := .st (.pair tR tR)
abbrev tO : Ty := .st (.pair tR (.pair tR tR))
abbrev tP : Ty := .st (.pair tR (.pair tR (.pair tR (.pair tR tR))))
abbrev tQ : Ty := .st (.pair tR (.pair tR (.pair tR (.pair tR (.pair tR tR)))))
abbrev tG : Ty := .st (.pair (.int .i64) (.int .i64))
abbrev BV := BR × BR
abbrev BO3 := BR × BR × BR
abbrev BP := BR × BR × BR × BR × BR
abbrev BQ := BR × BR × BR × BR × BR × BR
/-- The same, but the kernel does not look into it. -/
noncomputable def hid {α : Type} (x : α) : α := Classical.choose (⟨x, rfl⟩ : ∃ y, y = x)
theorem hid_eq {α : Type} (x : α) : hid x = x := Classical.choose_spec (⟨x, rfl⟩ : ∃ y, y = x)
/-- A type's values as the program's data. -/
class Cod (α : Type) (A : outParam Type) where
  enc : α → A
  dec : A → α
  bd : Nat → α → Prop
  ok : Nat → A → Prop
  okD : ∀ k x, Decidable (ok k x)
  mono : ∀ j k x, j ≤ k → bd j x → bd k x
  dec_enc : ∀ x, dec (enc x) = x
  ok_enc : ∀ k x, k ≤ 100000 → bd k x → ok k (enc x)
  ok_dec : ∀ k x, ok k x → x = enc (dec x) ∧ bd k (dec x)
def enc {α A : Type} [Cod α A] (x : α) : A := Cod.enc x
def dec {α A : Type} [Cod α A] (x : A) : α := Cod.dec x
def ok (α : Type) {A : Type} [Cod α A] (k : Nat) (x : A) : Prop := Cod.ok (α := α) k x
instance (α A : Type) [Cod α A] (k : Nat) (x : A) : Decidable (ok α k x) := Cod.okD k x
theorem dec_enc' {α A : Type} [Cod α A] (x : α) : dec (enc x) = x := Cod.dec_enc x
/-- The size of a value, found by instance search. -/
class Bd {α A : Type} [Cod α A] (x : α) (k : outParam Nat) : Prop where le : Cod.bd k x
theorem ok_ex {α A : Type} [Cod α A] {k : Nat} {x : A} (h : ok α k x) : ∃ v : α, x = enc v ∧ Bd v k := ⟨_, (Cod.ok_dec k x h).1, ⟨(Cod.ok_dec k x h).2⟩⟩
theorem okd {α A : Type} [Cod α A] {x : α} {j k : Nat} [h : Bd x j] (hj : j ≤ k) (hk : k ≤ 100000) : decide (ok α k (enc x)) = true :=
  decide_eq_true (Cod.ok_enc k x hk (Cod.mono j k x hj h.le))
instance codRat : Cod Rat BR where
  enc := encR
  dec := decR
  bd := bdR
  ok k x := okR x ∧ x.1.2.length ≤ k ∧ x.2.2.length ≤ k
  okD _ _ := instDecidableAnd
  mono _ _ _ hk h := bdR_mono h hk
  dec_enc := dec_encR
  ok_enc k _ hk h := ⟨okR_enc h hk, h.1, h.2⟩
  ok_dec k x h := by
    obtain ⟨h1, h2, h3⟩ := h
    refine ⟨okR_eq h1, ?_⟩
    obtain ⟨e1, e2⟩ := okR_num h1
    unfold bdR szI
    rw [e1, e2]
    rw [okI_eq h1.1] at h2
    rw [okI_eq h1.2.1] at h3
    exact ⟨h2, h3⟩
instance codInt : Cod Int Int where
  enc x := x
  dec x := x
  bd _ x := i64P x
  ok _ x := i64P x
  okD _ _ := inferInstance
  mono _ _ _ _ h := h
  dec_enc _ := rfl
  ok_enc _ _ _ h := h
  ok_dec _ _ h := ⟨rfl, h⟩
instance codBool : Cod Bool Bool where
  enc x := x
  dec x := x
  bd _ _ := True
  ok _ _ := True
  okD _ _ := inferInstance
  mono _ _ _ _ h := h
  dec_enc _ := rfl
  ok_enc _ _ _ h := h
  ok_dec _ _ h := ⟨rfl, h⟩
instance codPair (α β A B : Type) [Cod α A] [Cod β B] : Cod (α × β) (A × B) where
  enc x := (enc x.1, enc x.2)
  dec x := (dec x.1, dec x.2)
  bd k x := Cod.bd k x.1 ∧ Cod.bd k x.2
  ok k x := ok α k x.1 ∧ ok β k x.2
  okD _ _ := instDecidableAnd
  mono _ _ _ hk h := ⟨Cod.mono _ _ _ hk h.1, Cod.mono _ _ _ hk h.2⟩
  dec_enc x := by rw [dec_enc', dec_enc']
  ok_enc k _ hk h := ⟨Cod.ok_enc _ _ hk h.1, Cod.ok_enc _ _ hk h.2⟩
  ok_dec k x h := ⟨Prod.ext (Cod.ok_dec k x.1 h.1).1 (Cod.ok_dec k x.2 h.2).1, (Cod.ok_dec k x.1 h.1).2, (Cod.ok_dec k x.2 h.2).2⟩
instance codList (α A : Type) [Cod α A] : Cod (List α) (List A) where
  enc x := x.map enc
  dec x := x.map dec
  bd k x := ∀ y ∈ x, Cod.bd k y
  ok k x := ∀ y ∈ x, ok α k y
  okD _ _ := inferInstance
  mono _ _ _ hk h y hy := Cod.mono _ _ _ hk (h y hy)
  dec_enc x := by
    rw [List.map_map]
    exact (List.map_congr_left (fun a _ => dec_enc' a)).trans (List.map_id x)
  ok_enc k x hk h := by
    intro y hy
    obtain ⟨z, hz, rfl⟩ := List.mem_map.1 hy
    exact Cod.ok_enc _ _ hk (h z hz)
  ok_dec k x h := by
    constructor
    · rw [List.map_map]
      exact ((List.map_congr_left (fun a ha => (Cod.ok_dec k a (h a ha)).1.symm)).trans (List.map_id x)).symm
    · intro y hy
      obtain ⟨z, hz, rfl⟩ := List.mem_map.1 hy
      exact (Cod.ok_dec k z (h z hz)).2
/-- Equal by definition, but not told so: simp is to carry decisions along. -/
theorem nr {α : Type} {a b : α} (h : a = b) : a = b := h
theorem enc_fst {α β A B : Type} [Cod α A] [Cod β B] (x : α × β) : (enc x).1 = enc x.1 := nr rfl
theorem enc_snd {α β A B : Type} [Cod α A] [Cod β B] (x : α × β) : (enc x).2 = enc x.2 := nr rfl
theorem enc_mk {α β A B : Type} [Cod α A] [Cod β B] (x : α) (y : β) : enc (x, y) = (enc x, enc y) := nr rfl
theorem enc_rat (q : Rat) : enc q = encR q := nr rfl
theorem dec_rat (x : BR) : dec x = decR x := nr rfl
theorem enc_int (q : Int) : enc q = q := nr rfl
theorem enc_bool (q : Bool) : enc q = q := nr rfl
theorem okd_R {q : Rat} {j : Nat} [h : Bd q j] (hj : j ≤ 100000) : decide (okR (encR q)) = true := decide_eq_true (okR_enc h.le hj)
theorem okd_enc {q : Rat} {j : Nat} [h : Bd q j] (hj : j ≤ 100000) : decide (okR (enc q)) = true := okd_R hj
section
variable {α β A B : Type} [Cod α A] [Cod β B]
instance bd_fst {x : α × β} {k : Nat} [h : Bd x k] : Bd x.1 k := ⟨h.le.1⟩
instance bd_snd {x : α × β} {k : Nat} [h : Bd x k] : Bd x.2 k := ⟨h.le.2⟩
instance bd_mk {x : α} {y : β} {j k : Nat} [h : Bd x j] [h' : Bd y k] : Bd (x, y) (j + k) := ⟨Cod.mono _ _ _ (Nat.le_add_right _ _) h.le, Cod.mono _ _ _ (Nat.le_add_left _ _) h'.le⟩
instance bd_cond {b : Bool} {x y : α} {j k : Nat} [h : Bd x j] [h' : Bd y k] : Bd (bif b then x else y) (j + k) := by
  refine ⟨?_⟩
  cases b
  · exact Cod.mono _ _ _ (Nat.le_add_left _ _) h'.le
  · exact Cod.mono _ _ _ (Nat.le_add_right _ _) h.le
end
section
variable {a b : Rat} {j k : Nat}
instance bd_add [h : Bd a j] [h' : Bd b k] : Bd (a + b) (j + k + 1) := ⟨bdR_add h.le h'.le⟩
instance bd_sub [h : Bd a j] [h' : Bd b k] : Bd (a - b) (j + k + 1) := ⟨bdR_sub h.le h'.le⟩
instance bd_mul [h : Bd a j] [h' : Bd b k] : Bd (a * b) (j + k) := ⟨bdR_mul h.le h'.le⟩
instance bd_neg [h : Bd a j] : Bd (-a) j := ⟨bdR_neg h.le⟩
theorem bdR_one_le (h : bdR k b) : 1 ≤ k := by
  have h1 := h.2
  have h2 := szI_lt (b.den : Int)
  have h3 := b.den_pos
  rcases Nat.eq_zero_or_pos k with e | e
  · subst e
    have : szI (b.den : Int) = 0 := by omega
    rw [this] at h2
    have : pw 0 = 1 := rfl
    omega
  · exact e
instance bd_div [h : Bd a j] [h' : Bd b k] : Bd (a / b) (j + k) := by
  refine ⟨?_⟩
  by_cases h0 : b = 0
  · subst h0
    rw [Rat.div_def, Rat.inv_zero, Rat.mul_zero]
    have := bdR_one_le h'.le
    exact bdR_mono (j := 1) ⟨by decide +kernel, by decide +kernel⟩ (by omega)
  · exact bdR_div h.le h'.le h0
end
theorem bd_int64 {n : Int} (h : i64P n) : Bd (n : Rat) 3 := by
  refine ⟨?_⟩
  show bdR 3 (n : Rat)
  refine ⟨?_, ?_⟩
  · rw [Rat.num_intCast]
    have : pw 3 = 1000000000000000000000000000 := by decide
    exact szI_le (by have := h.1; omega) (by have := h.2; omega)
  · rw [Rat.den_intCast]
    exact szI_le (by decide) (by decide)
instance bd_zero : Bd (0 : Rat) 1 := ⟨⟨by decide +kernel, by decide +kernel⟩⟩
instance bd_one : Bd (1 : Rat) 1 := ⟨⟨by decide +kernel, by decide +kernel⟩⟩
instance bd_two : Bd (2 : Rat) 1 := ⟨⟨by decide +kernel, by decide +kernel⟩⟩
theorem okR_ex {x : BR} (h : okR x) : ∃ q : Rat, x = encR q ∧ Bd q 100000 := ⟨decR x, okR_eq h, ⟨okR_bd h⟩⟩
def wayR (a b : Rat × Rat) : Rat × Rat := (b.1 - a.1, b.2 - a.2)
def dotR (a b : Rat × Rat) : Rat := a.1 * b.1 + a.2 * b.2
def crsR (a b : Rat × Rat) : Rat := a.1 * b.2 - a.2 * b.1
instance bd_way {a b : Rat × Rat} {j k : Nat} [Bd a j] [Bd b k] : Bd (wayR a b) ((k + j + 1) + (k + j + 1)) := inferInstanceAs (Bd (b.1 - a.1, b.2 - a.2) _)
instance bd_dot {a b : Rat × Rat} {j k : Nat} [Bd a j] [Bd b k] : Bd (dotR a b) ((j + k) + (j + k) + 1) := inferInstanceAs (Bd (a.1 * b.1 + a.2 * b.2) _)
instance bd_crs {a b : Rat × Rat} {j k : Nat} [Bd a j] [Bd b k] : Bd (crsR a b) ((j + k) + (j + k) + 1) := inferInstanceAs (Bd (a.1 * b.2 - a.2 * b.1) _)
end Go.Proofs.YtcaiedfkohigjaaGreat

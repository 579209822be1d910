/- distance.Segments and the reference's: the whole. -/
import Derived.Test.YtcaiedfkohigjaaZ10
import Derived.Test.YtcaiedfkohigjaaZ7
namespace Go.Proofs.Ytcaiedfkohigjaa
open Go.RowKit
theorem bd_min {x y : Rat} {k : Nat} (hx : bdR k x) (hy : bdR k y) : bdR k (minR x y) := by
  unfold minR
  cases decide (y < x)
  · exact hx
  · exact hy
noncomputable def dts_tp : Spec := { keep := false, tame := true, run := fun _ args k => match args with
  | [.d (.st (.pair (.st (.pair (.st (.pair .bool (.sl (.int .u32)))) (.st (.pair .bool (.sl (.int .u32)))))) (.st (.pair (.st (.pair .bool (.sl (.int .u32)))) (.st (.pair .bool (.sl (.int .u32)))))))) a, .d (.st (.pair (.st (.pair (.st (.pair .bool (.sl (.int .u32)))) (.st (.pair .bool (.sl (.int .u32)))))) (.st (.pair (.st (.pair .bool (.sl (.int .u32)))) (.st (.pair .bool (.sl (.int .u32)))))))) b, .d (.st (.pair (.st (.pair (.st (.pair .bool (.sl (.int .u32)))) (.st (.pair .bool (.sl (.int .u32)))))) (.st (.pair (.st (.pair .bool (.sl (.int .u32)))) (.st (.pair .bool (.sl (.int .u32)))))))) p] => match decide (ok (Rat × Rat) 100 a ∧ ok (Rat × Rat) 100 b ∧ ok (Rat × Rat) 100 p) with
    | true => k [RV.d tR (hid (encR (tosR (dec a) (dec b) (dec p))))]
    | false => none
  | _ => none }
theorem dts_tpec : callable Try.prog 59 = true ∧ SpecOk Try.prog 59 dts_tp ∧ ∀ g, dts_tp.mut_ = some g → MCon Try.prog 59 g := by
  refine ⟨by kernel_rfl, fun R args k r h => ?_, fun g h => by cases h⟩
  unfold dts_tp at h
  dsimp only at h
  split at h <;> try (cases h; done)
  split at h <;> try (cases h; done)
  rename_i hd
  simp only [hid_eq] at h
  exact ⟨_, h, dts_con _ _ _ (of_decide_eq_true hd)⟩

def dcg_tp : Spec := { keep := true, tame := true, run := fun _ args k => match args with
  | [.d (.st (.pair (.st (.pair (.st (.pair .bool (.sl (.int .u32)))) (.st (.pair .bool (.sl (.int .u32)))))) (.st (.pair (.st (.pair .bool (.sl (.int .u32)))) (.st (.pair .bool (.sl (.int .u32)))))))) a, .d (.st (.pair (.st (.pair (.st (.pair .bool (.sl (.int .u32)))) (.st (.pair .bool (.sl (.int .u32)))))) (.st (.pair (.st (.pair .bool (.sl (.int .u32)))) (.st (.pair .bool (.sl (.int .u32)))))))) b, .d (.st (.pair (.st (.pair (.st (.pair .bool (.sl (.int .u32)))) (.st (.pair .bool (.sl (.int .u32)))))) (.st (.pair (.st (.pair .bool (.sl (.int .u32)))) (.st (.pair .bool (.sl (.int .u32)))))))) c, .d (.st (.pair (.st (.pair (.st (.pair .bool (.sl (.int .u32)))) (.st (.pair .bool (.sl (.int .u32)))))) (.st (.pair (.st (.pair .bool (.sl (.int .u32)))) (.st (.pair .bool (.sl (.int .u32)))))))) d] => match decide (ok (Rat × Rat) 100 a ∧ ok (Rat × Rat) 100 b ∧ ok (Rat × Rat) 100 c ∧ ok (Rat × Rat) 100 d) with
    | true => k [RV.d .bool (cgR (dec a) (dec b) (dec c) (dec d))]
    | false => none
  | _ => none }
theorem dcg_tpec : callable Try.prog 58 = true ∧ SpecOk Try.prog 58 dcg_tp ∧ ∀ g, dcg_tp.mut_ = some g → MCon Try.prog 58 g := by
  refine ⟨by kernel_rfl, fun R args k r h => ?_, fun g h => by cases h⟩
  unfold dcg_tp at h
  dsimp only at h
  split at h <;> try (cases h; done)
  split at h <;> try (cases h; done)
  rename_i hd
  exact ⟨_, h, dcg_con _ _ _ _ (of_decide_eq_true hd)⟩

noncomputable def envd4 : Env := [(96, rad_tp), (95, rsu_tp), (94, rmu_tp), (93, rdi_tp), (56, rsg_tp), (29, rcm_tp), (32, rfi_tp), (92, dad_tp), (91, dsu_tp), (81, dmu_tp), (77, dwa_tp), (79, ddo_tp), (78, dcr_tp), (80, dov_tp), (59, dts_tp), (58, dcg_tp)]
theorem envd4_ok : EnvAll Try.prog envd4 := ⟨rad_tpec, rsu_tpec, rmu_tpec, rdi_tpec, rsg_tpec, rcm_tpec, rfi_tpec, dad_tpec, dsu_tpec, dmu_tpec, dwa_tpec, ddo_tpec, dcr_tpec, dov_tpec, dts_tpec, dcg_tpec, trivial⟩
def dsg_nt : NT := [((30, 16), { keep := [8, 9, 34, 35, 36], hl := 7 })]
noncomputable def dsg_C : Ctx := ⟨Try.prog, ft, tys, envd4, dsg_nt⟩
noncomputable def dsg_h16 (a : BV) (b : BV) (c : BV) (d : BV) (s36 : Int) (b5_0 : Bool) (b5_1 : List Int) (b5_2 : Bool) (b5_3 : List Int) : Cfg := ⟨30, [.blk 0, .seq 33], [(8, .box 4 0), (9, .box 5 0), (34, .own 6), (35, SI (([hid (encR (tosR (dec a) (dec b) (dec d))), hid (encR (tosR (dec c) (dec d) (dec a))), hid (encR (tosR (dec c) (dec d) (dec b)))]).length : Int)), (36, SI s36)], [.box 64 [SB a.1.1.1, .d (.sl (.int .u32)) a.1.1.2, SB a.1.2.1, .d (.sl (.int .u32)) a.1.2.2, SB a.2.1.1, .d (.sl (.int .u32)) a.2.1.2, SB a.2.2.1, .d (.sl (.int .u32)) a.2.2.2], .box 64 [SB b.1.1.1, .d (.sl (.int .u32)) b.1.1.2, SB b.1.2.1, .d (.sl (.int .u32)) b.1.2.2, SB b.2.1.1, .d (.sl (.int .u32)) b.2.1.2, SB b.2.2.1, .d (.sl (.int .u32)) b.2.2.2], .box 64 [SB c.1.1.1, .d (.sl (.int .u32)) c.1.1.2, SB c.1.2.1, .d (.sl (.int .u32)) c.1.2.2, SB c.2.1.1, .d (.sl (.int .u32)) c.2.1.2, SB c.2.2.1, .d (.sl (.int .u32)) c.2.2.2], .box 64 [SB d.1.1.1, .d (.sl (.int .u32)) d.1.1.2, SB d.1.2.1, .d (.sl (.int .u32)) d.1.2.2, SB d.2.1.1, .d (.sl (.int .u32)) d.2.1.2, SB d.2.2.1, .d (.sl (.int .u32)) d.2.2.2], .box 61 [SB false, .nil, SB false, .nil], .box 61 [SB b5_0, .d (.sl (.int .u32)) b5_1, SB b5_2, .d (.sl (.int .u32)) b5_3], .row 61 tR ([hid (encR (tosR (dec a) (dec b) (dec d))), hid (encR (tosR (dec c) (dec d) (dec a))), hid (encR (tosR (dec c) (dec d) (dec b)))])], 0, []⟩
noncomputable def dsg_t (k : Nat → Cfg → Option (List RV)) (a : BV) (b : BV) (c : BV) (d : BV) : Option (List RV) := match decide (ok (Rat × Rat) 100 a ∧ ok (Rat × Rat) 100 b ∧ ok (Rat × Rat) 100 c ∧ ok (Rat × Rat) 100 d) with | true => (match cgR (dec a) (dec b) (dec c) (dec d) with | true => (match decide (i64P (0 : Int)) with | true => some [RV.d tR (hid (encR ((0 : Int) : Rat)))] | false => none) | false => (match decide (ok (Rat × Rat) 100 a ∧ ok (Rat × Rat) 100 b ∧ ok (Rat × Rat) 100 c) with | true => (match decide (ok (Rat × Rat) 100 a ∧ ok (Rat × Rat) 100 b ∧ ok (Rat × Rat) 100 d) with | true => (match decide (ok (Rat × Rat) 100 c ∧ ok (Rat × Rat) 100 d ∧ ok (Rat × Rat) 100 a) with | true => (match decide (ok (Rat × Rat) 100 c ∧ ok (Rat × Rat) 100 d ∧ ok (Rat × Rat) 100 b) with | true => k 16 (dsg_h16 a b c d 0 (((hid (encR (tosR (dec a) (dec b) (dec c)))).1).1) (((hid (encR (tosR (dec a) (dec b) (dec c)))).1).2) (((hid (encR (tosR (dec a) (dec b) (dec c)))).2).1) (((hid (encR (tosR (dec a) (dec b) (dec c)))).2).2)) | false => none) | false => none) | false => none) | false => none)) | false => none
theorem dsg_eq (k : Nat → Cfg → Option (List RV)) (a : BV) (b : BV) (c : BV) (d : BV) : go Try.prog ft tys envd4 dsg_nt k 4000 (start 30 [.d tV a, .d tV b, .d tV c, .d tV d]) (.node 0) = dsg_t k a b c d := (go2_eq _ _ _ _ _ _ _ _ _).symm.trans (show go2 Try.prog ft tys envd4 dsg_nt k 4000 (start 30 [.d tV a, .d tV b, .d tV c, .d tV d]) (.node 0) = dsg_t k a b c d by kernel_rfl)
theorem dsg_s (a : BV) (b : BV) (c : BV) (d : BV) {rX : List RV} (hX : ∃ nX, dsg_t (dsg_C.k nX) a b c d = some rX) : dsg_C.Res 30 [.d tV a, .d tV b, .d tV c, .d tV d] rX := by
  obtain ⟨nX, hX⟩ := hX
  exact ⟨nX, (dsg_eq _ a b c d).trans hX⟩
noncomputable def dsg_h16_t (k : Nat → Cfg → Option (List RV)) (a : BV) (b : BV) (c : BV) (d : BV) (s36 : Int) (b5_0 : Bool) (b5_1 : List Int) (b5_2 : Bool) (b5_3 : List Int) : Option (List RV) := match decide (s36 < (([hid (encR (tosR (dec a) (dec b) (dec d))), hid (encR (tosR (dec c) (dec d) (dec a))), hid (encR (tosR (dec c) (dec d) (dec b)))]).length : Int)) with | true => (match getI ([hid (encR (tosR (dec a) (dec b) (dec d))), hid (encR (tosR (dec c) (dec d) (dec a))), hid (encR (tosR (dec c) (dec d) (dec b)))]) s36 with | some _ => (match true, ([hid (encR (tosR (dec a) (dec b) (dec d))), hid (encR (tosR (dec c) (dec d) (dec a))), hid (encR (tosR (dec c) (dec d) (dec b)))])[(s36).toNat]? with | true, some x1 => (match decide (okR x1 ∧ okR ((b5_0, b5_1), (b5_2, b5_3))) with | true => (match decide ((cmpR (decR x1) (decR ((b5_0, b5_1), (b5_2, b5_3)))) < 0) with | true => k 16 (dsg_h16 a b c d (IntKind.i64.wrap (s36 + 1)) x1.1.1 x1.1.2 x1.2.1 x1.2.2) | false => k 16 (dsg_h16 a b c d (IntKind.i64.wrap (s36 + 1)) b5_0 b5_1 b5_2 b5_3)) | false => none) | _, _ => none) | none => none) | false => some [RV.d tR ((b5_0, b5_1), (b5_2, b5_3))]
theorem dsg_h16_eq (k : Nat → Cfg → Option (List RV)) (a : BV) (b : BV) (c : BV) (d : BV) (s36 : Int) (b5_0 : Bool) (b5_1 : List Int) (b5_2 : Bool) (b5_3 : List Int) : go Try.prog ft tys envd4 dsg_nt k 4000 { dsg_h16 a b c d s36 b5_0 b5_1 b5_2 b5_3 with K := .lp 16 :: (dsg_h16 a b c d s36 b5_0 b5_1 b5_2 b5_3).K } (.node 17) = dsg_h16_t k a b c d s36 b5_0 b5_1 b5_2 b5_3 := (go2_eq _ _ _ _ _ _ _ _ _).symm.trans (show go2 Try.prog ft tys envd4 dsg_nt k 4000 { dsg_h16 a b c d s36 b5_0 b5_1 b5_2 b5_3 with K := .lp 16 :: (dsg_h16 a b c d s36 b5_0 b5_1 b5_2 b5_3).K } (.node 17) = dsg_h16_t k a b c d s36 b5_0 b5_1 b5_2 b5_3 by kernel_rfl)
theorem dsg_h16_s (a : BV) (b : BV) (c : BV) (d : BV) (s36 : Int) (b5_0 : Bool) (b5_1 : List Int) (b5_2 : Bool) (b5_3 : List Int) {rX : List RV} (hX : ∃ nX, dsg_h16_t (dsg_C.k nX) a b c d s36 b5_0 b5_1 b5_2 b5_3 = some rX) : dsg_C.Runs 16 (dsg_h16 a b c d s36 b5_0 b5_1 b5_2 b5_3) rX := by
  obtain ⟨nX, hX⟩ := hX
  exact ⟨nX + 1, (dsg_h16_eq _ a b c d s36 b5_0 b5_1 b5_2 b5_3).trans hX⟩
theorem dsg_at3 {a b c d : Rat × Rat} (ba : Bd a 100) (bb : Bd b 100) (bc : Bd c 100) (bd : Bd d 100) {o : Rat} (ho : bdR 40000 o) : dsg_C.Runs 16 (dsg_h16 (enc a) (enc b) (enc c) (enc d) (3 : Int) (encR o).1.1 (encR o).1.2 (encR o).2.1 (encR o).2.2) [.d tR (encR o)] := by
  refine dsg_h16_s _ _ _ _ _ _ _ _ _ ⟨0, ?_⟩
  unfold dsg_h16_t
  rfl
theorem dsg_at2 {a b c d : Rat × Rat} (ba : Bd a 100) (bb : Bd b 100) (bc : Bd c 100) (bd : Bd d 100) {o : Rat} (ho : bdR 40000 o) : dsg_C.Runs 16 (dsg_h16 (enc a) (enc b) (enc c) (enc d) (2 : Int) (encR o).1.1 (encR o).1.2 (encR o).2.1 (encR o).2.2) [.d tR (encR (minR o (tosR c d b)))] := by
  have bx : Bd (tosR c d b) 40000 := ⟨bdR_mono (inferInstance : Bd (tosR c d b) _).le (by decide)⟩
  have bo : Bd o 40000 := ⟨ho⟩
  obtain ⟨q, hq⟩ := dsg_at3 ba bb bc bd (o := minR o (tosR c d b)) (bd_min ho bx.le)
  refine dsg_h16_s _ _ _ _ _ _ _ _ _ ⟨q, ?_⟩
  unfold dsg_h16_t
  simp only [hid_eq, dec_enc']
  have key : (match decide (okR (encR (tosR c d b)) ∧ okR (encR o)) with | true => (match decide (cmpR (decR (encR (tosR c d b))) (decR (encR o)) < 0) with | true => dsg_C.k q 16 (dsg_h16 (enc a) (enc b) (enc c) (enc d) (3 : Int) (encR (tosR c d b)).1.1 (encR (tosR c d b)).1.2 (encR (tosR c d b)).2.1 (encR (tosR c d b)).2.2) | false => dsg_C.k q 16 (dsg_h16 (enc a) (enc b) (enc c) (enc d) (3 : Int) (encR o).1.1 (encR o).1.2 (encR o).2.1 (encR o).2.2)) | false => none) = some [.d tR (encR (minR o (tosR c d b)))] := by
    simp only [both_self, bothV_self, dup_eq, hid_eq, dec_enc', enc_fst, enc_snd, enc_mk, enc_rat, enc_int, enc_bool, dec_rat, dec_encR, okd, okd_R, okd_rdi, Bool.decide_and, Bool.and_true, Bool.and_self, Bool.true_and, Nat.reduceAdd, Nat.reduceMul, Nat.reduceLeDiff, cmpR_ltb]
    unfold minR at hq ⊢
    cases hc : decide ((tosR c d b) < o) <;> rw [hc] at hq <;> exact hq
  exact key
theorem dsg_at1 {a b c d : Rat × Rat} (ba : Bd a 100) (bb : Bd b 100) (bc : Bd c 100) (bd : Bd d 100) {o : Rat} (ho : bdR 40000 o) : dsg_C.Runs 16 (dsg_h16 (enc a) (enc b) (enc c) (enc d) (1 : Int) (encR o).1.1 (encR o).1.2 (encR o).2.1 (encR o).2.2) [.d tR (encR (minR (minR o (tosR c d a)) (tosR c d b)))] := by
  have bx : Bd (tosR c d a) 40000 := ⟨bdR_mono (inferInstance : Bd (tosR c d a) _).le (by decide)⟩
  have bo : Bd o 40000 := ⟨ho⟩
  obtain ⟨q, hq⟩ := dsg_at2 ba bb bc bd (o := minR o (tosR c d a)) (bd_min ho bx.le)
  refine dsg_h16_s _ _ _ _ _ _ _ _ _ ⟨q, ?_⟩
  unfold dsg_h16_t
  simp only [hid_eq, dec_enc']
  have key : (match decide (okR (encR (tosR c d a)) ∧ okR (encR o)) with | true => (match decide (cmpR (decR (encR (tosR c d a))) (decR (encR o)) < 0) with | true => dsg_C.k q 16 (dsg_h16 (enc a) (enc b) (enc c) (enc d) (2 : Int) (encR (tosR c d a)).1.1 (encR (tosR c d a)).1.2 (encR (tosR c d a)).2.1 (encR (tosR c d a)).2.2) | false => dsg_C.k q 16 (dsg_h16 (enc a) (enc b) (enc c) (enc d) (2 : Int) (encR o).1.1 (encR o).1.2 (encR o).2.1 (encR o).2.2)) | false => none) = some [.d tR (encR (minR (minR o (tosR c d a)) (tosR c d b)))] := by
    simp only [both_self, bothV_self, dup_eq, hid_eq, dec_enc', enc_fst, enc_snd, enc_mk, enc_rat, enc_int, enc_bool, dec_rat, dec_encR, okd, okd_R, okd_rdi, Bool.decide_and, Bool.and_true, Bool.and_self, Bool.true_and, Nat.reduceAdd, Nat.reduceMul, Nat.reduceLeDiff, cmpR_ltb]
    unfold minR at hq ⊢
    cases hc : decide ((tosR c d a) < o) <;> rw [hc] at hq <;> exact hq
  exact key
theorem dsg_at0 {a b c d : Rat × Rat} (ba : Bd a 100) (bb : Bd b 100) (bc : Bd c 100) (bd : Bd d 100) {o : Rat} (ho : bdR 40000 o) : dsg_C.Runs 16 (dsg_h16 (enc a) (enc b) (enc c) (enc d) (0 : Int) (encR o).1.1 (encR o).1.2 (encR o).2.1 (encR o).2.2) [.d tR (encR (minR (minR (minR o (tosR a b d)) (tosR c d a)) (tosR c d b)))] := by
  have bx : Bd (tosR a b d) 40000 := ⟨bdR_mono (inferInstance : Bd (tosR a b d) _).le (by decide)⟩
  have bo : Bd o 40000 := ⟨ho⟩
  obtain ⟨q, hq⟩ := dsg_at1 ba bb bc bd (o := minR o (tosR a b d)) (bd_min ho bx.le)
  refine dsg_h16_s _ _ _ _ _ _ _ _ _ ⟨q, ?_⟩
  unfold dsg_h16_t
  simp only [hid_eq, dec_enc']
  have key : (match decide (okR (encR (tosR a b d)) ∧ okR (encR o)) with | true => (match decide (cmpR (decR (encR (tosR a b d))) (decR (encR o)) < 0) with | true => dsg_C.k q 16 (dsg_h16 (enc a) (enc b) (enc c) (enc d) (1 : Int) (encR (tosR a b d)).1.1 (encR (tosR a b d)).1.2 (encR (tosR a b d)).2.1 (encR (tosR a b d)).2.2) | false => dsg_C.k q 16 (dsg_h16 (enc a) (enc b) (enc c) (enc d) (1 : Int) (encR o).1.1 (encR o).1.2 (encR o).2.1 (encR o).2.2)) | false => none) = some [.d tR (encR (minR (minR (minR o (tosR a b d)) (tosR c d a)) (tosR c d b)))] := by
    simp only [both_self, bothV_self, dup_eq, hid_eq, dec_enc', enc_fst, enc_snd, enc_mk, enc_rat, enc_int, enc_bool, dec_rat, dec_encR, okd, okd_R, okd_rdi, Bool.decide_and, Bool.and_true, Bool.and_self, Bool.true_and, Nat.reduceAdd, Nat.reduceMul, Nat.reduceLeDiff, cmpR_ltb]
    unfold minR at hq ⊢
    cases hc : decide ((tosR a b d) < o) <;> rw [hc] at hq <;> exact hq
  exact key
theorem dsg_con (a : BV) (b : BV) (c : BV) (d : BV) (h : ok (Rat × Rat) 100 a ∧ ok (Rat × Rat) 100 b ∧ ok (Rat × Rat) 100 c ∧ ok (Rat × Rat) 100 d) : Con Try.prog 30 [.d tV a, .d tV b, .d tV c, .d tV d] [.d tR (encR (segR (dec a) (dec b) (dec c) (dec d)))] := by
  refine Ctx.Res.con (C := dsg_C) (ctx_ok envd4_ok) ?_ (fn := Try.f30) (by kernel_rfl) (by kernel_rfl)
  obtain ⟨ha, hb, hc, hd⟩ := h
  obtain ⟨a, rfl, ba⟩ := ok_ex ha
  obtain ⟨b, rfl, bb⟩ := ok_ex hb
  obtain ⟨c, rfl, bc⟩ := ok_ex hc
  obtain ⟨d, rfl, bd⟩ := ok_ex hd
  have bt : Bd (tosR a b c) 40000 := ⟨bdR_mono (inferInstance : Bd (tosR a b c) _).le (by decide)⟩
  obtain ⟨q, hq⟩ := dsg_at0 ba bb bc bd bt.le
  refine dsg_s _ _ _ _ ⟨q, ?_⟩
  unfold dsg_t
  simp only [both_self, bothV_self, dup_eq, hid_eq, dec_enc', enc_fst, enc_snd, enc_mk, enc_rat, enc_int, enc_bool, dec_rat, dec_encR, okd, okd_R, okd_rdi, Bool.decide_and, Bool.and_true, Bool.and_self, Bool.true_and, Nat.reduceAdd, Nat.reduceMul, Nat.reduceLeDiff]
  unfold segR
  cases cgR a b c d
  · exact hq
  · rfl
end Go.Proofs.Ytcaiedfkohigjaa
/- tabs: far, vec, On; the reference's Inside, square, On. -/
namespace Go.Proofs.Ytcaiedfkohigjaa
open Go.RowKit
def farI (n : Int) : Bool := decide (n > 10000000) || decide (n < -10000000)
def farL (l : List Int) : Bool := l.any farI
def gridP (a : Int × Int) : Prop := i64P a.1 ∧ i64P a.2
instance (a : Int × Int) : Decidable (gridP a) := by unfold gridP; infer_instance
def vecR (a : Int × Int) : Rat × Rat := ((a.1 : Rat), (a.2 : Rat))
def insB (a : Int × Int) : Bool := !(farI a.1) && !(farI a.2)
def onB (a b x : Int × Int) : Bool := !(farL [a.1, a.2, b.1, b.2, x.1, x.2]) && decide (segR (vecR a) (vecR b) (vecR x) (vecR x) ≤ ((1 : Int) : Rat))
theorem farI_false {n : Int} (h : farI n = false) : -10000000 ≤ n ∧ n ≤ 10000000 := by
  unfold farI at h
  simp only [Bool.or_eq_false_iff, decide_eq_false_iff_not] at h
  omega
theorem farI_i64 {n : Int} (h : farI n = false) : i64P n := by
  have := farI_false h
  exact ⟨by omega, by omega⟩
theorem bd_vec {a : Int × Int} (h : gridP a) : Bd (vecR a) 6 := by
  have h1 := bd_int64 h.1
  have h2 := bd_int64 h.2
  exact (inferInstance : Bd ((a.1 : Rat), (a.2 : Rat)) (3 + 3))
instance bd_int1 : Bd ((1 : Int) : Rat) 1 := ⟨⟨by decide +kernel, by decide +kernel⟩⟩
instance bd_seg {a b c d : Rat × Rat} {j k l m : Nat} [ha : Bd a j] [hb : Bd b k] [hc : Bd c l] [hd : Bd d m] : Bd (segR a b c d) (100 * (j + k + l + m + 1)) := by
  have h1 : ∀ {q : Rat} {n : Nat}, Bd q n → n ≤ 100 * (j + k + l + m + 1) → bdR (100 * (j + k + l + m + 1)) q := fun h hm => bdR_mono h.le hm
  refine ⟨?_⟩
  show bdR _ _
  unfold segR
  cases cgR a b c d
  · exact bd_min (bd_min (bd_min (h1 (inferInstance : Bd (tosR a b c) _) (by omega)) (h1 (inferInstance : Bd (tosR a b d) _) (by omega))) (h1 (inferInstance : Bd (tosR c d a) _) (by omega))) (h1 (inferInstance : Bd (tosR c d b) _) (by omega))
  · exact h1 bd_zero (by omega)
theorem okd_grid {a : Int × Int} (h : gridP a) : decide (gridP a) = true := decide_eq_true h
noncomputable def dsg_tp : Spec := { keep := false, tame := true, run := fun _ args k => match args with
  | [.d (.st (.pair (.st (.pair (.st (.pair .bool (.sl (.int .u32)))) (.st (.pair .bool (.sl (.int .u32)))))) (.st (.pair (.st (.pair .bool (.sl (.int .u32)))) (.st (.pair .bool (.sl (.int .u32)))))))) a, .d (.st (.pair (.st (.pair (.st (.pair .bool (.sl (.int .u32)))) (.st (.pair .bool (.sl (.int .u32)))))) (.st (.pair (.st (.pair .bool (.sl (.int .u32)))) (.st (.pair .bool (.sl (.int .u32)))))))) b, .d (.st (.pair (.st (.pair (.st (.pair .bool (.sl (.int .u32)))) (.st (.pair .bool (.sl (.int .u32)))))) (.st (.pair (.st (.pair .bool (.sl (.int .u32)))) (.st (.pair .bool (.sl (.int .u32)))))))) c, .d (.st (.pair (.st (.pair (.st (.pair .bool (.sl (.int .u32)))) (.st (.pair .bool (.sl (.int .u32)))))) (.st (.pair (.st (.pair .bool (.sl (.int .u32)))) (.st (.pair .bool (.sl (.int .u32)))))))) d] => match decide (ok (Rat × Rat) 100 a ∧ ok (Rat × Rat) 100 b ∧ ok (Rat × Rat) 100 c ∧ ok (Rat × Rat) 100 d) with
    | true => k [RV.d tR (hid (encR (segR (dec a) (dec b) (dec c) (dec d))))]
    | false => none
  | _ => none }
theorem dsg_tpec : callable Try.prog 30 = true ∧ SpecOk Try.prog 30 dsg_tp ∧ ∀ g, dsg_tp.mut_ = some g → MCon Try.prog 30 g := by
  refine ⟨by kernel_rfl, fun R args k r h => ?_, fun g h => by cases h⟩
  unfold dsg_tp at h
  dsimp only at h
  split at h <;> try (cases h; done)
  split at h <;> try (cases h; done)
  rename_i hd
  simp only [hid_eq] at h
  exact ⟨_, h, dsg_con _ _ _ _ (of_decide_eq_true hd)⟩

noncomputable def envTb0 : Env := [(32, rfi_tp), (29, rcm_tp), (30, dsg_tp)]
theorem envTb0_ok : EnvAll Try.prog envTb0 := ⟨rfi_tpec, rcm_tpec, dsg_tpec, trivial⟩
def tfar_nt : NT := [((61, 6), { keep := [0, 1, 7, 8], hl := 0 }), ((22, 3), { keep := [4], hl := 0 }), ((34, 3), { keep := [7], hl := 0 }), ((61, 18), { keep := [0, 1, 5, 7, 8, 16], hl := 0 })]
noncomputable def tfar_C : Ctx := ⟨Try.prog, ft, tys, envTb0, tfar_nt⟩
def tfar_h61_6 (l : List Int) (s61_8 : Int) : Cfg := ⟨61, [.blk 0, .seq 25], [(0, .d (.sl (.int .i64)) l), (1, .clo 35 []), (7, SI (l.length : Int)), (8, SI s61_8)], [], 0, [⟨34, [.seq 4], 3, 2, [], 0, none⟩, ⟨22, [.seq 4], 3, 1, [], 0, none⟩]⟩
noncomputable def tfar_t (k : Nat → Cfg → Option (List RV)) (l : List Int) : Option (List RV) := k 6 (tfar_h61_6 l 0)
theorem tfar_eq (k : Nat → Cfg → Option (List RV)) (l : List Int) : go Try.prog ft tys envTb0 tfar_nt k 4000 (start 22 [.d (.sl (.int .i64)) l]) (.node 0) = tfar_t k l := (go2_eq _ _ _ _ _ _ _ _ _).symm.trans (show go2 Try.prog ft tys envTb0 tfar_nt k 4000 (start 22 [.d (.sl (.int .i64)) l]) (.node 0) = tfar_t k l by kernel_rfl)
theorem tfar_s (l : List Int) {rX : List RV} (hX : ∃ nX, tfar_t (tfar_C.k nX) l = some rX) : tfar_C.Res 22 [.d (.sl (.int .i64)) l] rX := by
  obtain ⟨nX, hX⟩ := hX
  exact ⟨nX, (tfar_eq _ l).trans hX⟩
noncomputable def tfar_h61_6_t (k : Nat → Cfg → Option (List RV)) (l : List Int) (s61_8 : Int) : Option (List RV) := match decide (s61_8 < (l.length : Int)) with | true => (match getI l s61_8 with | some x1 => (match decide (x1 > 10000000) with | true => some [RV.d .bool (decide (s61_8 ≥ 0))] | false => (match decide (x1 < (-10000000)) with | true => some [RV.d .bool (decide (s61_8 ≥ 0))] | false => k 6 (tfar_h61_6 l (IntKind.i64.wrap (s61_8 + 1))))) | none => none) | false => some [RV.d .bool (decide ((-1) ≥ 0))]
theorem tfar_h61_6_eq (k : Nat → Cfg → Option (List RV)) (l : List Int) (s61_8 : Int) : go Try.prog ft tys envTb0 tfar_nt k 4000 { tfar_h61_6 l s61_8 with K := .lp 6 :: (tfar_h61_6 l s61_8).K } (.node 7) = tfar_h61_6_t k l s61_8 := (go2_eq _ _ _ _ _ _ _ _ _).symm.trans (show go2 Try.prog ft tys envTb0 tfar_nt k 4000 { tfar_h61_6 l s61_8 with K := .lp 6 :: (tfar_h61_6 l s61_8).K } (.node 7) = tfar_h61_6_t k l s61_8 by kernel_rfl)
theorem tfar_h61_6_s (l : List Int) (s61_8 : Int) {rX : List RV} (hX : ∃ nX, tfar_h61_6_t (tfar_C.k nX) l s61_8 = some rX) : tfar_C.Runs 6 (tfar_h61_6 l s61_8) rX := by
  obtain ⟨nX, hX⟩ := hX
  exact ⟨nX + 1, (tfar_h61_6_eq _ l s61_8).trans hX⟩
def tvec_nt : NT := []
noncomputable def tvec_C : Ctx := ⟨Try.prog, ft, tys, envTb0, tvec_nt⟩
noncomputable def tvec_t (_k : Nat → Cfg → Option (List RV)) (a : (Int × Int)) : Option (List RV) := match decide (i64P a.1) with | true => (match decide (i64P a.2) with | true => some [RV.d tV (hid (encR (a.1 : Rat)), hid (encR (a.2 : Rat)))] | false => none) | false => none
theorem tvec_eq (k : Nat → Cfg → Option (List RV)) (a : (Int × Int)) : go Try.prog ft tys envTb0 tvec_nt k 4000 (start 31 [.d tG a]) (.node 0) = tvec_t k a := (go2_eq _ _ _ _ _ _ _ _ _).symm.trans (show go2 Try.prog ft tys envTb0 tvec_nt k 4000 (start 31 [.d tG a]) (.node 0) = tvec_t k a by kernel_rfl)
theorem tvec_s (a : (Int × Int)) {rX : List RV} (hX : ∃ nX, tvec_t (tvec_C.k nX) a = some rX) : tvec_C.Res 31 [.d tG a] rX := by
  obtain ⟨nX, hX⟩ := hX
  exact ⟨nX, (tvec_eq _ a).trans hX⟩
theorem tfar_loop (l : List Int) (hl : l.length ≤ 1000000000) : ∀ (j i : Nat), i + j = l.length → tfar_C.Runs 6 (tfar_h61_6 l (i : Int)) [.d .bool (farL (l.drop i))] := by
  intro j
  induction j with
  | zero =>
    intro i hi
    refine tfar_h61_6_s _ _ ⟨0, ?_⟩
    unfold tfar_h61_6_t
    rw [ge_dec (by omega), drop_end (by omega)]
    rfl
  | succ j ih =>
    intro i hi
    have hil : i < l.length := by omega
    obtain ⟨q, hq⟩ := ih (i + 1) (by omega)
    refine tfar_h61_6_s _ _ ⟨q, ?_⟩
    unfold tfar_h61_6_t
    rw [lt_dec hil, getI_nat, List.getElem?_eq_getElem hil, drop_get hil, wrapS (by omega)]
    dsimp only
    have e : farL (l[i] :: l.drop (i + 1)) = (farI l[i] || farL (l.drop (i + 1))) := rfl
    rw [e]
    unfold farI
    rw [show decide ((i : Int) ≥ 0) = true from decide_eq_true (by omega)]
    cases decide (l[i] > 10000000)
    · cases decide (l[i] < -10000000)
      · exact hq
      · rfl
    · rfl
def farP (l : List Int) : Prop := l.length ≤ 1000000000
instance (l : List Int) : Decidable (farP l) := by unfold farP; infer_instance
theorem tfar_con (l : List Int) (h : farP l) : Con Try.prog 22 [.d (.sl (.int .i64)) l] [.d .bool (farL l)] := by
  refine Ctx.Res.con (C := tfar_C) (ctx_ok envTb0_ok) ?_ (fn := Try.f22) (by kernel_rfl) (by kernel_rfl)
  obtain ⟨q, hq⟩ := tfar_loop l h l.length 0 (by omega)
  exact tfar_s _ ⟨q, hq⟩
theorem tvec_con (a : (Int × Int)) (h : gridP a) : Con Try.prog 31 [.d tG a] [.d tV (enc (vecR a))] := by
  refine Ctx.Res.con (C := tvec_C) (ctx_ok envTb0_ok) (tvec_s _ ⟨0, ?_⟩) (fn := Try.f31) (by kernel_rfl) (by kernel_rfl)
  have h1 := bd_int64 h.1
  have h2 := bd_int64 h.2
  unfold tvec_t
  rw [dT h.1, dT h.2]
  simp only [hid_eq]
  rfl
def tfar_sp : Spec := { keep := true, run := fun _ args k => match args with
  | [.d (.sl (.int .i64)) l] => match decide (farP l) with
    | true => k [RV.d .bool (farL l)]
    | false => none
  | _ => none }
theorem tfar_spec : callable Try.prog 22 = true ∧ SpecOk Try.prog 22 tfar_sp ∧ ∀ g, tfar_sp.mut_ = some g → MCon Try.prog 22 g := by
  refine ⟨by kernel_rfl, fun R args k r h => ?_, fun g h => by simp [tfar_sp] at h⟩
  unfold tfar_sp at h
  dsimp only at h
  split at h <;> try (cases h; done)
  split at h <;> try (cases h; done)
  rename_i hd
  exact ⟨_, h, tfar_con _ (of_decide_eq_true hd)⟩

noncomputable def tvec_tp : Spec := { keep := false, tame := true, run := fun _ args k => match args with
  | [.d (.st (.pair (.int .i64) (.int .i64))) a] => match decide (gridP a) with
    | true => k [RV.d tV (hid (enc (vecR a)))]
    | false => none
  | _ => none }
theorem tvec_tpec : callable Try.prog 31 = true ∧ SpecOk Try.prog 31 tvec_tp ∧ ∀ g, tvec_tp.mut_ = some g → MCon Try.prog 31 g := by
  refine ⟨by kernel_rfl, fun R args k r h => ?_, fun g h => by cases h⟩
  unfold tvec_tp at h
  dsimp only at h
  split at h <;> try (cases h; done)
  split at h <;> try (cases h; done)
  rename_i hd
  simp only [hid_eq] at h
  exact ⟨_, h, tvec_con _ (of_decide_eq_true hd)⟩

noncomputable def envTb1 : Env := [(32, rfi_tp), (29, rcm_tp), (30, dsg_tp), (22, tfar_sp), (31, tvec_tp)]
theorem envTb1_ok : EnvAll Try.prog envTb1 := ⟨rfi_tpec, rcm_tpec, dsg_tpec, tfar_spec, tvec_tpec, trivial⟩
def ton_nt : NT := []
noncomputable def ton_C : Ctx := ⟨Try.prog, ft, tys, envTb1, ton_nt⟩
noncomputable def ton_t (_k : Nat → Cfg → Option (List RV)) (a : (Int × Int)) (b : (Int × Int)) (x : (Int × Int)) : Option (List RV) := match decide (farP ([a.1, a.2, b.1, b.2, x.1, x.2])) with | true => (match farL ([a.1, a.2, b.1, b.2, x.1, x.2]) with | true => some [RV.d .bool false] | false => (match decide (gridP a) with | true => (match decide (gridP b) with | true => (match decide (gridP x) with | true => (match decide (gridP x) with | true => (match decide (ok (Rat × Rat) 100 (hid (enc (vecR a))) ∧ ok (Rat × Rat) 100 (hid (enc (vecR b))) ∧ ok (Rat × Rat) 100 (hid (enc (vecR x))) ∧ ok (Rat × Rat) 100 (hid (enc (vecR x)))) with | true => (match decide (i64P (1 : Int)) with | true => (match decide (okR (hid (encR (segR (dec (hid (enc (vecR a)))) (dec (hid (enc (vecR b)))) (dec (hid (enc (vecR x)))) (dec (hid (enc (vecR x))))))) ∧ okR (hid (encR ((1 : Int) : Rat)))) with | true => some [RV.d .bool (decide ((cmpR (decR (hid (encR (segR (dec (hid (enc (vecR a)))) (dec (hid (enc (vecR b)))) (dec (hid (enc (vecR x)))) (dec (hid (enc (vecR x)))))))) (decR (hid (encR ((1 : Int) : Rat))))) ≤ 0))] | false => none) | false => none) | false => none) | false => none) | false => none) | false => none) | false => none)) | false => none
theorem ton_eq (k : Nat → Cfg → Option (List RV)) (a : (Int × Int)) (b : (Int × Int)) (x : (Int × Int)) : go Try.prog ft tys envTb1 ton_nt k 4000 (start 18 [.d tG a, .d tG b, .d tG x]) (.node 0) = ton_t k a b x := (go2_eq _ _ _ _ _ _ _ _ _).symm.trans (show go2 Try.prog ft tys envTb1 ton_nt k 4000 (start 18 [.d tG a, .d tG b, .d tG x]) (.node 0) = ton_t k a b x by kernel_rfl)
theorem ton_s (a : (Int × Int)) (b : (Int × Int)) (x : (Int × Int)) {rX : List RV} (hX : ∃ nX, ton_t (ton_C.k nX) a b x = some rX) : ton_C.Res 18 [.d tG a, .d tG b, .d tG x] rX := by
  obtain ⟨nX, hX⟩ := hX
  exact ⟨nX, (ton_eq _ a b x).trans hX⟩
theorem ton_con (a : (Int × Int)) (b : (Int × Int)) (x : (Int × Int)) : Con Try.prog 18 [.d tG a, .d tG b, .d tG x] [.d .bool (onB a b x)] := by
  refine Ctx.Res.con (C := ton_C) (ctx_ok envTb1_ok) (ton_s _ _ _ ⟨0, ?_⟩) (fn := Try.f18) (by kernel_rfl) (by kernel_rfl)
  unfold ton_t onB
  rw [dT (show farP [a.1, a.2, b.1, b.2, x.1, x.2] by show 6 ≤ 1000000000; decide)]
  dsimp only
  cases hf : farL [a.1, a.2, b.1, b.2, x.1, x.2]
  · simp only [farL, List.any_cons, List.any_nil, Bool.or_false, Bool.or_eq_false_iff] at hf
    obtain ⟨h1, h2, h3, h4, h5, h6⟩ := hf
    have ga : gridP a := ⟨farI_i64 h1, farI_i64 h2⟩
    have gb : gridP b := ⟨farI_i64 h3, farI_i64 h4⟩
    have gx : gridP x := ⟨farI_i64 h5, farI_i64 h6⟩
    have ba := bd_vec ga
    have bb := bd_vec gb
    have bx := bd_vec gx
    have h1' : i64P 1 := by decide
    simp only [okd_grid ga, okd_grid gb, okd_grid gx, dT h1', both_self, bothV_self, dup_eq, hid_eq, dec_enc', enc_fst, enc_snd, enc_mk, enc_rat, enc_int, enc_bool, dec_rat, dec_encR, okd, okd_R, okd_rdi, Bool.decide_and, Bool.and_true, Bool.and_self, Bool.true_and, Nat.reduceAdd, Nat.reduceMul, Nat.reduceLeDiff, cmpR_leb]
    rfl
  · rfl
def envTb2 : Env := []
theorem envTb2_ok : EnvAll Try.prog envTb2 := trivial
def uin_nt : NT := []
noncomputable def uin_C : Ctx := ⟨Try.prog, ft, tys, envTb2, uin_nt⟩
noncomputable def uin_t (_k : Nat → Cfg → Option (List RV)) (n : Int) : Option (List RV) := match decide (n ≥ (-10000000)) with | true => some [RV.d .bool (decide (n ≤ 10000000))] | false => some [RV.d .bool false]
theorem uin_eq (k : Nat → Cfg → Option (List RV)) (n : Int) : go Try.prog ft tys envTb2 uin_nt k 4000 (start 36 [SI n]) (.node 0) = uin_t k n := (go2_eq _ _ _ _ _ _ _ _ _).symm.trans (show go2 Try.prog ft tys envTb2 uin_nt k 4000 (start 36 [SI n]) (.node 0) = uin_t k n by kernel_rfl)
theorem uin_s (n : Int) {rX : List RV} (hX : ∃ nX, uin_t (uin_C.k nX) n = some rX) : uin_C.Res 36 [SI n] rX := by
  obtain ⟨nX, hX⟩ := hX
  exact ⟨nX, (uin_eq _ n).trans hX⟩
theorem uin_con (n : Int) : Con Try.prog 36 [.d (.int .i64) n] [.d .bool (!(farI n))] := by
  refine Ctx.Res.con (C := uin_C) (ctx_ok envTb2_ok) (uin_s _ ⟨0, ?_⟩) (fn := Try.f36) (by kernel_rfl) (by kernel_rfl)
  unfold uin_t farI
  rcases Int.lt_or_le n (-10000000) with h | h
  · rw [dF (show ¬ n ≥ -10000000 by omega), dT (show n < -10000000 from h), Bool.or_true]
    rfl
  · rw [dT (show n ≥ -10000000 from h), dF (show ¬ n < -10000000 by omega), Bool.or_false]
    rw [show decide (n ≤ 10000000) = !decide (n > 10000000) by rw [← decide_not]; exact decide_eq_decide.2 (by omega)]
def uin_tp : Spec := { keep := true, tame := true, run := fun _ args k => match args with
  | [.d (.int .i64) n] => k [RV.d .bool (!(farI n))]
  | _ => none }
theorem uin_tpec : callable Try.prog 36 = true ∧ SpecOk Try.prog 36 uin_tp ∧ ∀ g, uin_tp.mut_ = some g → MCon Try.prog 36 g := by
  refine ⟨by kernel_rfl, fun R args k r h => ?_, fun g h => by cases h⟩
  unfold uin_tp at h
  dsimp only at h
  split at h <;> try (cases h; done)
  exact ⟨_, h, uin_con _ ⟩

def envTb3 : Env := [(36, uin_tp)]
theorem envTb3_ok : EnvAll Try.prog envTb3 := ⟨uin_tpec, trivial⟩
def uins_nt : NT := []
noncomputable def uins_C : Ctx := ⟨Try.prog, ft, tys, envTb3, uins_nt⟩
noncomputable def uins_t (_k : Nat → Cfg → Option (List RV)) (a : (Int × Int)) : Option (List RV) := match !(farI a.1) with | true => some [RV.d .bool (!(farI a.2))] | false => some [RV.d .bool false]
theorem uins_eq (k : Nat → Cfg → Option (List RV)) (a : (Int × Int)) : go Try.prog ft tys envTb3 uins_nt k 4000 (start 23 [.d tG a]) (.node 0) = uins_t k a := (go2_eq _ _ _ _ _ _ _ _ _).symm.trans (show go2 Try.prog ft tys envTb3 uins_nt k 4000 (start 23 [.d tG a]) (.node 0) = uins_t k a by kernel_rfl)
theorem uins_s (a : (Int × Int)) {rX : List RV} (hX : ∃ nX, uins_t (uins_C.k nX) a = some rX) : uins_C.Res 23 [.d tG a] rX := by
  obtain ⟨nX, hX⟩ := hX
  exact ⟨nX, (uins_eq _ a).trans hX⟩
theorem uins_con (a : (Int × Int)) : Con Try.prog 23 [.d tG a] [.d .bool (insB a)] := by
  refine Ctx.Res.con (C := uins_C) (ctx_ok envTb3_ok) (uins_s _ ⟨0, ?_⟩) (fn := Try.f23) (by kernel_rfl) (by kernel_rfl)
  unfold uins_t insB
  cases farI a.1 <;> rfl
def uins_tp : Spec := { keep := true, tame := true, run := fun _ args k => match args with
  | [.d (.st (.pair (.int .i64) (.int .i64))) a] => k [RV.d .bool (insB a)]
  | _ => none }
theorem uins_tpec : callable Try.prog 23 = true ∧ SpecOk Try.prog 23 uins_tp ∧ ∀ g, uins_tp.mut_ = some g → MCon Try.prog 23 g := by
  refine ⟨by kernel_rfl, fun R args k r h => ?_, fun g h => by cases h⟩
  unfold uins_tp at h
  dsimp only at h
  split at h <;> try (cases h; done)
  exact ⟨_, h, uins_con _ ⟩
end Go.Proofs.Ytcaiedfkohigjaa
/- tabs: part, ends. -/
namespace Go.Proofs.Ytcaiedfkohigjaa
open Go.RowKit
def partN (d w n : Int) : Int := isqI (d * w * (d * w) * 1099511627776 / n)
def partF (d w n : Int) : Int := bif decide (d < 0) then IntKind.i64.wrap (0 - (bif decide (i64P (partN d w n)) then partN d w n else 0)) else (bif decide (i64P (partN d w n)) then partN d w n else 0)
def partP (d w n : Int) : Prop := i64P d ∧ i64P w ∧ i64P n ∧ 0 < n
instance (d w n : Int) : Decidable (partP d w n) := by unfold partP; infer_instance
def atG (p : List (Int × Int)) (i : Int) : Int × Int := p.getD i.toNat (0, 0)
def nxG (p : List (Int × Int)) (i : Int) : Int := (i + 1) % (p.length : Int)
def endP (p : List (Int × Int)) (i : Int) : Prop := 0 ≤ i ∧ i < (p.length : Int) ∧ p.length ≤ 1000000000
instance (p : List (Int × Int)) (i : Int) : Decidable (endP p i) := by unfold endP; infer_instance
theorem szI_64 {n : Int} (h : i64P n) : szI n ≤ 3 := by
  have : pw 3 = 1000000000000000000000000000 := by decide
  exact szI_le (by have := h.1; omega) (by have := h.2; omega)
def fri_up : Spec := { keep := false, tame := true, run := fun _ args k => match args with
  | [.d (.int .i64) n] => match decide (i64P n) with
    | true => k [RV.d tI (encI n)]
    | false => none
  | _ => none }
theorem fri_upec : callable Try.prog 51 = true ∧ SpecOk Try.prog 51 fri_up ∧ ∀ g, fri_up.mut_ = some g → MCon Try.prog 51 g := by
  refine ⟨by kernel_rfl, fun R args k r h => ?_, fun g h => by cases h⟩
  unfold fri_up at h
  dsimp only at h
  split at h <;> try (cases h; done)
  split at h <;> try (cases h; done)
  rename_i hd
  exact ⟨_, h, fri_con _ (of_decide_eq_true hd)⟩

def imu_up : Spec := { keep := false, tame := true, run := fun _ args k => match args with
  | [.d (.st (.pair .bool (.sl (.int .u32)))) x, .d (.st (.pair .bool (.sl (.int .u32)))) y] => match decide (okI x ∧ okI y) with
    | true => k [RV.d tI (encI (decI x * decI y))]
    | false => none
  | _ => none }
theorem imu_upec : callable Try.prog 50 = true ∧ SpecOk Try.prog 50 imu_up ∧ ∀ g, imu_up.mut_ = some g → MCon Try.prog 50 g := by
  refine ⟨by kernel_rfl, fun R args k r h => ?_, fun g h => by cases h⟩
  unfold imu_up at h
  dsimp only at h
  split at h <;> try (cases h; done)
  split at h <;> try (cases h; done)
  rename_i hd
  exact ⟨_, h, imu_con _ _ (of_decide_eq_true hd)⟩

def idm_up : Spec := { keep := false, tame := true, run := fun _ args k => match args with
  | [.d (.st (.pair .bool (.sl (.int .u32)))) x, .d (.st (.pair .bool (.sl (.int .u32)))) y] => match decide (idmP x y) with
    | true => k [RV.d tI (encI (decI x / decI y)), RV.d tI (encI (decI x % decI y)), RV.d (.int .i64) 0]
    | false => none
  | _ => none }
theorem idm_upec : callable Try.prog 52 = true ∧ SpecOk Try.prog 52 idm_up ∧ ∀ g, idm_up.mut_ = some g → MCon Try.prog 52 g := by
  refine ⟨by kernel_rfl, fun R args k r h => ?_, fun g h => by cases h⟩
  unfold idm_up at h
  dsimp only at h
  split at h <;> try (cases h; done)
  split at h <;> try (cases h; done)
  rename_i hd
  exact ⟨_, h, idm_con _ _ (of_decide_eq_true hd)⟩

def isq_up : Spec := { keep := false, tame := true, run := fun _ args k => match args with
  | [.d (.st (.pair .bool (.sl (.int .u32)))) x] => match decide (okI x) with
    | true => k [RV.d tI (sqtI x), RV.d (.int .i64) (sqtE x)]
    | false => none
  | _ => none }
theorem isq_upec : callable Try.prog 53 = true ∧ SpecOk Try.prog 53 isq_up ∧ ∀ g, isq_up.mut_ = some g → MCon Try.prog 53 g := by
  refine ⟨by kernel_rfl, fun R args k r h => ?_, fun g h => by cases h⟩
  unfold isq_up at h
  dsimp only at h
  split at h <;> try (cases h; done)
  split at h <;> try (cases h; done)
  rename_i hd
  exact ⟨_, h, isq_con _ (of_decide_eq_true hd)⟩

def i64_up : Spec := { keep := true, tame := true, run := fun _ args k => match args with
  | [.d (.st (.pair .bool (.sl (.int .u32)))) x] => match decide (okI x) with
    | true => k [RV.d (.int .i64) (bif decide (i64P (decI x)) then decI x else 0), RV.d .bool (decide (i64P (decI x)))]
    | false => none
  | _ => none }
theorem i64_upec : callable Try.prog 54 = true ∧ SpecOk Try.prog 54 i64_up ∧ ∀ g, i64_up.mut_ = some g → MCon Try.prog 54 g := by
  refine ⟨by kernel_rfl, fun R args k r h => ?_, fun g h => by cases h⟩
  unfold i64_up at h
  dsimp only at h
  split at h <;> try (cases h; done)
  split at h <;> try (cases h; done)
  rename_i hd
  exact ⟨_, h, i64_con _ (of_decide_eq_true hd)⟩

def envTc1 : Env := [(51, fri_up), (50, imu_up), (52, idm_up), (53, isq_up), (54, i64_up)]
theorem envTc1_ok : EnvAll Try.prog envTc1 := ⟨fri_upec, imu_upec, idm_upec, isq_upec, i64_upec, trivial⟩
def tprt_nt : NT := []
noncomputable def tprt_C : Ctx := ⟨Try.prog, ft, tys, envTc1, tprt_nt⟩
noncomputable def tprt_t (_k : Nat → Cfg → Option (List RV)) (d : Int) (w : Int) (n : Int) : Option (List RV) := match decide (i64P d) with | true => (match decide (i64P w) with | true => (match decide (okI (encI d) ∧ okI (encI w)) with | true => (match decide (okI (encI (decI (encI d) * decI (encI w))) ∧ okI (encI (decI (encI d) * decI (encI w)))) with | true => (match decide (i64P (1099511627776 : Int)) with | true => (match decide (okI (encI (decI (encI (decI (encI d) * decI (encI w))) * decI (encI (decI (encI d) * decI (encI w))))) ∧ okI (encI (1099511627776 : Int))) with | true => (match decide (i64P n) with | true => (match decide (idmP (encI (decI (encI (decI (encI (decI (encI d) * decI (encI w))) * decI (encI (decI (encI d) * decI (encI w))))) * decI (encI (1099511627776 : Int)))) (encI n)) with | true => (match 0 != 0 with | true => some [RV.d (.int .i64) 0] | false => (match decide (okI (encI (decI (encI (decI (encI (decI (encI (decI (encI d) * decI (encI w))) * decI (encI (decI (encI d) * decI (encI w))))) * decI (encI (1099511627776 : Int)))) / decI (encI n)))) with | true => (match decide (okI (sqtI (encI (decI (encI (decI (encI (decI (encI (decI (encI d) * decI (encI w))) * decI (encI (decI (encI d) * decI (encI w))))) * decI (encI (1099511627776 : Int)))) / decI (encI n))))) with | true => (match decide (d < 0) with | true => some [RV.d (.int .i64) (IntKind.i64.wrap (0 - (bif decide (i64P (decI (sqtI (encI (decI (encI (decI (encI (decI (encI (decI (encI d) * decI (encI w))) * decI (encI (decI (encI d) * decI (encI w))))) * decI (encI (1099511627776 : Int)))) / decI (encI n)))))) then decI (sqtI (encI (decI (encI (decI (encI (decI (encI (decI (encI d) * decI (encI w))) * decI (encI (decI (encI d) * decI (encI w))))) * decI (encI (1099511627776 : Int)))) / decI (encI n)))) else 0)))] | false => some [RV.d (.int .i64) (bif decide (i64P (decI (sqtI (encI (decI (encI (decI (encI (decI (encI (decI (encI d) * decI (encI w))) * decI (encI (decI (encI d) * decI (encI w))))) * decI (encI (1099511627776 : Int)))) / decI (encI n)))))) then decI (sqtI (encI (decI (encI (decI (encI (decI (encI (decI (encI d) * decI (encI w))) * decI (encI (decI (encI d) * decI (encI w))))) * decI (encI (1099511627776 : Int)))) / decI (encI n)))) else 0)]) | false => none) | false => none)) | false => none) | false => none) | false => none) | false => none) | false => none) | false => none) | false => none) | false => none
theorem tprt_eq (k : Nat → Cfg → Option (List RV)) (d : Int) (w : Int) (n : Int) : go Try.prog ft tys envTc1 tprt_nt k 4000 (start 27 [SI d, SI w, SI n]) (.node 0) = tprt_t k d w n := (go2_eq _ _ _ _ _ _ _ _ _).symm.trans (show go2 Try.prog ft tys envTc1 tprt_nt k 4000 (start 27 [SI d, SI w, SI n]) (.node 0) = tprt_t k d w n by kernel_rfl)
theorem tprt_s (d : Int) (w : Int) (n : Int) {rX : List RV} (hX : ∃ nX, tprt_t (tprt_C.k nX) d w n = some rX) : tprt_C.Res 27 [SI d, SI w, SI n] rX := by
  obtain ⟨nX, hX⟩ := hX
  exact ⟨nX, (tprt_eq _ d w n).trans hX⟩
def tend_nt : NT := []
noncomputable def tend_C : Ctx := ⟨Try.prog, ft, tys, envTc1, tend_nt⟩
noncomputable def tend_t (_k : Nat → Cfg → Option (List RV)) (p : List ((Int × Int))) (i : Int) : Option (List RV) := match getI p i with | some x1 => (match decide ((p.length : Int) = (0 : Int)) with | true => none | false => (match getI p (Int.tmod (IntKind.i64.wrap (i + 1)) (p.length : Int)) with | some x2 => dup (.b .l .l) (some [RV.d tG x1, RV.d tG x2]) | none => none)) | none => none
theorem tend_eq (k : Nat → Cfg → Option (List RV)) (p : List ((Int × Int))) (i : Int) : go Try.prog ft tys envTc1 tend_nt k 4000 (start 12 [.d (.sl tG) p, SI i]) (.node 0) = tend_t k p i := (go2_eq _ _ _ _ _ _ _ _ _).symm.trans (show go2 Try.prog ft tys envTc1 tend_nt k 4000 (start 12 [.d (.sl tG) p, SI i]) (.node 0) = tend_t k p i by kernel_rfl)
theorem tend_s (p : List ((Int × Int))) (i : Int) {rX : List RV} (hX : ∃ nX, tend_t (tend_C.k nX) p i = some rX) : tend_C.Res 12 [.d (.sl tG) p, SI i] rX := by
  obtain ⟨nX, hX⟩ := hX
  exact ⟨nX, (tend_eq _ p i).trans hX⟩
theorem tprt_con (d : Int) (w : Int) (n : Int) (h : partP d w n) : Con Try.prog 27 [.d (.int .i64) d, .d (.int .i64) w, .d (.int .i64) n] [.d (.int .i64) (partF d w n)] := by
  refine Ctx.Res.con (C := tprt_C) (ctx_ok envTc1_ok) (tprt_s _ _ _ ⟨0, ?_⟩) (fn := Try.f27) (by kernel_rfl) (by kernel_rfl)
  obtain ⟨hd, hw, hn, h0⟩ := h
  have sd := szI_64 hd
  have sw := szI_64 hw
  have sn := szI_64 hn
  have s1 := szI_mul sd sw
  have s2 := szI_mul s1 s1
  have s3 : szI 1099511627776 ≤ 2 := by decide
  have s4 := szI_mul s2 s3
  have hnn : 0 ≤ d * w * (d * w) * 1099511627776 := Int.mul_nonneg (by
    rcases Int.le_total 0 (d * w) with h | h
    · exact Int.mul_nonneg h h
    · exact Int.mul_nonneg_of_nonpos_of_nonpos h h) (by decide)
  have q0 : 0 ≤ d * w * (d * w) * 1099511627776 / n := Int.ediv_nonneg hnn (by omega)
  have q1 : d * w * (d * w) * 1099511627776 / n ≤ d * w * (d * w) * 1099511627776 := Int.ediv_le_self _ hnn
  have s5 : szI (d * w * (d * w) * 1099511627776 / n) ≤ 14 := Nat.le_trans (szI_of_le (by omega)) s4
  obtain ⟨r0, r1, r2⟩ := isqI_ok q0
  have s6 : szI (isqI (d * w * (d * w) * 1099511627776 / n)) ≤ 14 := Nat.le_trans (szI_of_le (by
    have : isqI (d * w * (d * w) * 1099511627776 / n) ≤ isqI (d * w * (d * w) * 1099511627776 / n) * isqI (d * w * (d * w) * 1099511627776 / n) := by
      rcases (show isqI (d * w * (d * w) * 1099511627776 / n) = 0 ∨ 1 ≤ isqI (d * w * (d * w) * 1099511627776 / n) by omega) with h | h
      · rw [h]; decide
      · have := Int.mul_le_mul_of_nonneg_left h (show 0 ≤ isqI (d * w * (d * w) * 1099511627776 / n) by omega)
        omega
    omega)) s5
  have e1 : sqtI (encI (d * w * (d * w) * 1099511627776 / n)) = encI (isqI (d * w * (d * w) * 1099511627776 / n)) := by
    unfold sqtI
    rw [show (encI (d * w * (d * w) * 1099511627776 / n)).1 = false from decide_eq_false (by omega), dec_enc]
    rfl
  unfold tprt_t
  rw [dT hd, dT hw, dT hn, dT (show i64P 1099511627776 by decide)]
  simp only [dup_eq, dec_enc, e1]
  rw [dT (show okI (encI d) ∧ okI (encI w) from ⟨okI_enc (by omega), okI_enc (by omega)⟩), dT (show okI (encI (d * w)) ∧ okI (encI (d * w)) from ⟨okI_enc (by omega), okI_enc (by omega)⟩), dT (show okI (encI (d * w * (d * w))) ∧ okI (encI 1099511627776) from ⟨okI_enc (by omega), by decide⟩), dT (show idmP (encI (d * w * (d * w) * 1099511627776)) (encI n) from ⟨okI_enc (by omega), okI_enc (by omega), by rw [dec_enc]; exact h0⟩), dT (show okI (encI (d * w * (d * w) * 1099511627776 / n)) from okI_enc (by omega)), dT (show okI (encI (isqI (d * w * (d * w) * 1099511627776 / n))) from okI_enc (by omega))]
  unfold partF partN
  cases decide (d < 0) <;> rfl
theorem tend_con (p : List ((Int × Int))) (i : Int) (h : endP p i) : Con Try.prog 12 [.d (.sl tG) p, .d (.int .i64) i] [.d tG (atG p i), .d tG (atG p (nxG p i))] := by
  refine Ctx.Res.con (C := tend_C) (ctx_ok envTc1_ok) (tend_s _ _ ⟨0, ?_⟩) (fn := Try.f12) (by kernel_rfl) (by kernel_rfl)
  obtain ⟨h0, h1, h2⟩ := h
  obtain ⟨k, rfl⟩ := Int.eq_ofNat_of_zero_le h0
  have hk : k < p.length := by omega
  have hm : (k + 1) % p.length < p.length := Nat.mod_lt _ (by omega)
  have e1 : Int.tmod (IntKind.i64.wrap ((k : Int) + 1)) (p.length : Int) = (((k + 1) % p.length : Nat) : Int) := by
    rw [wrapS (by omega), tmodP (by omega)]
    simp
  have e2 : nxG p (k : Int) = (((k + 1) % p.length : Nat) : Int) := by
    unfold nxG
    simp
  unfold tend_t atG
  rw [e2]
  simp only [e1, getI_nat, List.getElem?_eq_getElem hk, List.getElem?_eq_getElem hm, toNat_nat, List.getD_eq_getElem?_getD, Option.getD_some]
  rw [dF (show ¬ (p.length : Int) = 0 by omega)]
  dsimp only
  rw [dup_eq]
end Go.Proofs.Ytcaiedfkohigjaa
/- tabs: good, along, Valid; the reference's Path, along, Valid. -/
namespace Go.Proofs.Ytcaiedfkohigjaa
open Go.RowKit
abbrev TB := Int × (Int × Int) × Int × Int
def farG (p : List (Int × Int)) : Prop := p.length ≤ 1000000000
instance (p : List (Int × Int)) : Decidable (farG p) := by unfold farG; infer_instance
def farV (g : Int × Int) : Bool := farL [g.1, g.2]
def goodB (p : List (Int × Int)) : Bool := decide ((p.length : Int) ≤ 20000) && !(p.any farV)
def aloF (a b x : Int × Int) : Int := IntKind.i64.wrap ((IntKind.i64.wrap ((IntKind.i64.wrap (x.1 - a.1)) * (IntKind.i64.wrap (b.1 - a.1)))) + (IntKind.i64.wrap ((IntKind.i64.wrap (x.2 - a.2)) * (IntKind.i64.wrap (b.2 - a.2)))))
def aloT (p : List (Int × Int)) (t : TB) (x : Int × Int) : Int := aloF (atG p t.1) (atG p (nxG p t.1)) x
def tabOk (p : List (Int × Int)) (t : TB) : Bool := !(decide (t.1 < 0)) && (!(decide (t.1 ≥ (p.length : Int))) && (onB (atG p t.1) (atG p (nxG p t.1)) t.2.1 && (onB (atG p t.1) (atG p (nxG p t.1)) t.2.2 && !(decide (aloT p t t.2.1 ≥ aloT p t t.2.2)))))
def nextOk (p : List (Int × Int)) (s t : TB) : Bool := decide (s.1 < t.1) || (!(decide (s.1 > t.1)) && !(decide (aloT p t s.2.2 ≥ aloT p t t.2.1)))
def valG (p : List (Int × Int)) : Option TB → List TB → Bool
  | _, [] => true
  | none, t :: r => tabOk p t && valG p (some t) r
  | some s, t :: r => tabOk p t && (nextOk p s t && valG p (some t) r)
def valF (p : List (Int × Int)) (l : List TB) : Bool := goodB p && (!(decide ((p.length : Int) < 2)) && valG p none l)
def valP (p : List (Int × Int)) (l : List TB) : Prop := farG p ∧ l.length ≤ 1000000000
instance (p : List (Int × Int)) (l : List TB) : Decidable (valP p l) := by unfold valP; infer_instance
def envTd0 : Env := [(22, tfar_sp), (23, uins_tp)]
theorem envTd0_ok : EnvAll Try.prog envTd0 := ⟨tfar_spec, uins_tpec, trivial⟩
def tgood_nt : NT := [((33, 6), { keep := [0, 1, 7, 8], hl := 0 }), ((11, 3), { keep := [6, 8], hl := 0 }), ((20, 3), { keep := [7], hl := 0 }), ((33, 18), { keep := [0, 1, 5, 7, 8, 16], hl := 0 })]
noncomputable def tgood_C : Ctx := ⟨Try.prog, ft, tys, envTd0, tgood_nt⟩
def tgood_h33_6 (p : List ((Int × Int))) (s33_8 : Int) : Cfg := ⟨33, [.blk 0, .seq 25], [(0, .d (.sl tG) p), (1, .clo 21 []), (7, SI (p.length : Int)), (8, SI s33_8)], [], 0, [⟨20, [.seq 4], 3, 2, [], 0, none⟩, ⟨11, [.seq 4], 3, 5, [(6, SB true)], 0, none⟩]⟩
noncomputable def tgood_t (k : Nat → Cfg → Option (List RV)) (p : List ((Int × Int))) : Option (List RV) := match decide ((p.length : Int) ≤ 20000) with | true => k 6 (tgood_h33_6 p 0) | false => some [RV.d .bool false]
theorem tgood_eq (k : Nat → Cfg → Option (List RV)) (p : List ((Int × Int))) : go Try.prog ft tys envTd0 tgood_nt k 4000 (start 11 [.d (.sl tG) p]) (.node 0) = tgood_t k p := (go2_eq _ _ _ _ _ _ _ _ _).symm.trans (show go2 Try.prog ft tys envTd0 tgood_nt k 4000 (start 11 [.d (.sl tG) p]) (.node 0) = tgood_t k p by kernel_rfl)
theorem tgood_s (p : List ((Int × Int))) {rX : List RV} (hX : ∃ nX, tgood_t (tgood_C.k nX) p = some rX) : tgood_C.Res 11 [.d (.sl tG) p] rX := by
  obtain ⟨nX, hX⟩ := hX
  exact ⟨nX, (tgood_eq _ p).trans hX⟩
noncomputable def tgood_h33_6_t (k : Nat → Cfg → Option (List RV)) (p : List ((Int × Int))) (s33_8 : Int) : Option (List RV) := match decide (s33_8 < (p.length : Int)) with | true => (match getI p s33_8 with | some x1 => (match decide (farP ([x1.1, x1.2])) with | true => (match farL ([x1.1, x1.2]) with | true => some [RV.d .bool (!(decide (s33_8 ≥ 0)))] | false => k 6 (tgood_h33_6 p (IntKind.i64.wrap (s33_8 + 1)))) | false => none) | none => none) | false => some [RV.d .bool (!(decide ((-1) ≥ 0)))]
theorem tgood_h33_6_eq (k : Nat → Cfg → Option (List RV)) (p : List ((Int × Int))) (s33_8 : Int) : go Try.prog ft tys envTd0 tgood_nt k 4000 { tgood_h33_6 p s33_8 with K := .lp 6 :: (tgood_h33_6 p s33_8).K } (.node 7) = tgood_h33_6_t k p s33_8 := (go2_eq _ _ _ _ _ _ _ _ _).symm.trans (show go2 Try.prog ft tys envTd0 tgood_nt k 4000 { tgood_h33_6 p s33_8 with K := .lp 6 :: (tgood_h33_6 p s33_8).K } (.node 7) = tgood_h33_6_t k p s33_8 by kernel_rfl)
theorem tgood_h33_6_s (p : List ((Int × Int))) (s33_8 : Int) {rX : List RV} (hX : ∃ nX, tgood_h33_6_t (tgood_C.k nX) p s33_8 = some rX) : tgood_C.Runs 6 (tgood_h33_6 p s33_8) rX := by
  obtain ⟨nX, hX⟩ := hX
  exact ⟨nX + 1, (tgood_h33_6_eq _ p s33_8).trans hX⟩
def upath_nt : NT := [((13, 6), { keep := [0, 3], hl := 0 })]
noncomputable def upath_C : Ctx := ⟨Try.prog, ft, tys, envTd0, upath_nt⟩
def upath_h6 (p : List ((Int × Int))) (s3 : Int) : Cfg := ⟨13, [.blk 0, .seq 23], [(0, .d (.sl tG) p), (3, SI s3)], [], 0, []⟩
noncomputable def upath_t (k : Nat → Cfg → Option (List RV)) (p : List ((Int × Int))) : Option (List RV) := k 6 (upath_h6 p 0)
theorem upath_eq (k : Nat → Cfg → Option (List RV)) (p : List ((Int × Int))) : go Try.prog ft tys envTd0 upath_nt k 4000 (start 13 [.d (.sl tG) p]) (.node 0) = upath_t k p := (go2_eq _ _ _ _ _ _ _ _ _).symm.trans (show go2 Try.prog ft tys envTd0 upath_nt k 4000 (start 13 [.d (.sl tG) p]) (.node 0) = upath_t k p by kernel_rfl)
theorem upath_s (p : List ((Int × Int))) {rX : List RV} (hX : ∃ nX, upath_t (upath_C.k nX) p = some rX) : upath_C.Res 13 [.d (.sl tG) p] rX := by
  obtain ⟨nX, hX⟩ := hX
  exact ⟨nX, (upath_eq _ p).trans hX⟩
noncomputable def upath_h6_t (k : Nat → Cfg → Option (List RV)) (p : List ((Int × Int))) (s3 : Int) : Option (List RV) := match decide (s3 < (p.length : Int)) with | true => (match getI p s3 with | some x1 => (match !(insB x1) with | true => some [RV.d .bool false] | false => k 6 (upath_h6 p (IntKind.i64.wrap (s3 + 1)))) | none => none) | false => some [RV.d .bool (decide ((p.length : Int) ≤ 20000))]
theorem upath_h6_eq (k : Nat → Cfg → Option (List RV)) (p : List ((Int × Int))) (s3 : Int) : go Try.prog ft tys envTd0 upath_nt k 4000 { upath_h6 p s3 with K := .lp 6 :: (upath_h6 p s3).K } (.node 7) = upath_h6_t k p s3 := (go2_eq _ _ _ _ _ _ _ _ _).symm.trans (show go2 Try.prog ft tys envTd0 upath_nt k 4000 { upath_h6 p s3 with K := .lp 6 :: (upath_h6 p s3).K } (.node 7) = upath_h6_t k p s3 by kernel_rfl)
theorem upath_h6_s (p : List ((Int × Int))) (s3 : Int) {rX : List RV} (hX : ∃ nX, upath_h6_t (upath_C.k nX) p s3 = some rX) : upath_C.Runs 6 (upath_h6 p s3) rX := by
  obtain ⟨nX, hX⟩ := hX
  exact ⟨nX + 1, (upath_h6_eq _ p s3).trans hX⟩
def talo_nt : NT := []
noncomputable def talo_C : Ctx := ⟨Try.prog, ft, tys, envTd0, talo_nt⟩
noncomputable def talo_t (_k : Nat → Cfg → Option (List RV)) (a : (Int × Int)) (b : (Int × Int)) (x : (Int × Int)) : Option (List RV) := some [RV.d (.int .i64) (IntKind.i64.wrap ((IntKind.i64.wrap ((IntKind.i64.wrap (x.1 - a.1)) * (IntKind.i64.wrap (b.1 - a.1)))) + (IntKind.i64.wrap ((IntKind.i64.wrap (x.2 - a.2)) * (IntKind.i64.wrap (b.2 - a.2))))))]
theorem talo_eq (k : Nat → Cfg → Option (List RV)) (a : (Int × Int)) (b : (Int × Int)) (x : (Int × Int)) : go Try.prog ft tys envTd0 talo_nt k 4000 (start 19 [.d tG a, .d tG b, .d tG x]) (.node 0) = talo_t k a b x := (go2_eq _ _ _ _ _ _ _ _ _).symm.trans (show go2 Try.prog ft tys envTd0 talo_nt k 4000 (start 19 [.d tG a, .d tG b, .d tG x]) (.node 0) = talo_t k a b x by kernel_rfl)
theorem talo_s (a : (Int × Int)) (b : (Int × Int)) (x : (Int × Int)) {rX : List RV} (hX : ∃ nX, talo_t (talo_C.k nX) a b x = some rX) : talo_C.Res 19 [.d tG a, .d tG b, .d tG x] rX := by
  obtain ⟨nX, hX⟩ := hX
  exact ⟨nX, (talo_eq _ a b x).trans hX⟩
theorem tgood_loop (p : List (Int × Int)) (hl : p.length ≤ 1000000000) : ∀ (j i : Nat), i + j = p.length → tgood_C.Runs 6 (tgood_h33_6 p (i : Int)) [.d .bool (!((p.drop i).any farV))] := by
  intro j
  induction j with
  | zero =>
    intro i hi
    refine tgood_h33_6_s _ _ ⟨0, ?_⟩
    unfold tgood_h33_6_t
    rw [ge_dec (by omega), drop_end (by omega)]
    rfl
  | succ j ih =>
    intro i hi
    have hil : i < p.length := by omega
    obtain ⟨q, hq⟩ := ih (i + 1) (by omega)
    refine tgood_h33_6_s _ _ ⟨q, ?_⟩
    unfold tgood_h33_6_t
    rw [lt_dec hil, getI_nat, List.getElem?_eq_getElem hil, drop_get hil, wrapS (by omega)]
    dsimp only
    rw [dT (show farP [p[i].1, p[i].2] by show 2 ≤ 1000000000; decide), List.any_cons, show farV p[i] = farL [p[i].1, p[i].2] from rfl]
    cases farL [p[i].1, p[i].2]
    · exact hq
    · rw [dT (show (i : Int) ≥ 0 by omega)]
      rfl
theorem tgood_con (p : List ((Int × Int))) (h : farG p) : Con Try.prog 11 [.d (.sl tG) p] [.d .bool (goodB p)] := by
  refine Ctx.Res.con (C := tgood_C) (ctx_ok envTd0_ok) ?_ (fn := Try.f11) (by kernel_rfl) (by kernel_rfl)
  obtain ⟨q, hq⟩ := tgood_loop p h p.length 0 (by omega)
  refine tgood_s _ ⟨q, ?_⟩
  unfold tgood_t goodB
  cases decide ((p.length : Int) ≤ 20000)
  · rfl
  · exact hq
theorem upath_loop (p : List (Int × Int)) (hl : p.length ≤ 1000000000) : ∀ (j i : Nat), i + j = p.length → upath_C.Runs 6 (upath_h6 p (i : Int)) [.d .bool (decide ((p.length : Int) ≤ 20000) && !((p.drop i).any farV))] := by
  intro j
  induction j with
  | zero =>
    intro i hi
    refine upath_h6_s _ _ ⟨0, ?_⟩
    unfold upath_h6_t
    rw [ge_dec (by omega), drop_end (by omega)]
    dsimp only
    rw [show ([] : List (Int × Int)).any farV = false from rfl, Bool.not_false, Bool.and_true]
  | succ j ih =>
    intro i hi
    have hil : i < p.length := by omega
    obtain ⟨q, hq⟩ := ih (i + 1) (by omega)
    refine upath_h6_s _ _ ⟨q, ?_⟩
    unfold upath_h6_t
    rw [lt_dec hil, getI_nat, List.getElem?_eq_getElem hil, drop_get hil, wrapS (by omega)]
    dsimp only
    have e : insB p[i] = !(farV p[i]) := by
      unfold insB farV farL
      simp only [List.any_cons, List.any_nil, Bool.or_false]
      cases farI p[i].1 <;> rfl
    rw [List.any_cons, e]
    cases farV p[i]
    · exact hq
    · simp
theorem upath_con (p : List ((Int × Int))) (h : farG p) : Con Try.prog 13 [.d (.sl tG) p] [.d .bool (goodB p)] := by
  refine Ctx.Res.con (C := upath_C) (ctx_ok envTd0_ok) ?_ (fn := Try.f13) (by kernel_rfl) (by kernel_rfl)
  obtain ⟨q, hq⟩ := upath_loop p h p.length 0 (by omega)
  exact upath_s _ ⟨q, hq⟩
theorem talo_con (a : (Int × Int)) (b : (Int × Int)) (x : (Int × Int)) : Con Try.prog 19 [.d tG a, .d tG b, .d tG x] [.d (.int .i64) (aloF a b x)] := by
  refine Ctx.Res.con (C := talo_C) (ctx_ok envTd0_ok) (talo_s _ _ _ ⟨0, ?_⟩) (fn := Try.f19) (by kernel_rfl) (by kernel_rfl)
  rfl
def ton_tp : Spec := { keep := true, tame := true, run := fun _ args k => match args with
  | [.d (.st (.pair (.int .i64) (.int .i64))) a, .d (.st (.pair (.int .i64) (.int .i64))) b, .d (.st (.pair (.int .i64) (.int .i64))) x] => k [RV.d .bool (onB a b x)]
  | _ => none }
theorem ton_tpec : callable Try.prog 18 = true ∧ SpecOk Try.prog 18 ton_tp ∧ ∀ g, ton_tp.mut_ = some g → MCon Try.prog 18 g := by
  refine ⟨by kernel_rfl, fun R args k r h => ?_, fun g h => by cases h⟩
  unfold ton_tp at h
  dsimp only at h
  split at h <;> try (cases h; done)
  exact ⟨_, h, ton_con _ _ _ ⟩

noncomputable def tend_tp : Spec := { keep := true, tame := true, run := fun _ args k => match args with
  | [.d (.sl (.st (.pair (.int .i64) (.int .i64)))) p, .d (.int .i64) i] => match decide (endP p i) with
    | true => k [RV.d tG (hid (atG p i)), RV.d tG (hid (atG p (nxG p i)))]
    | false => none
  | _ => none }
theorem tend_tpec : callable Try.prog 12 = true ∧ SpecOk Try.prog 12 tend_tp ∧ ∀ g, tend_tp.mut_ = some g → MCon Try.prog 12 g := by
  refine ⟨by kernel_rfl, fun R args k r h => ?_, fun g h => by cases h⟩
  unfold tend_tp at h
  dsimp only at h
  split at h <;> try (cases h; done)
  split at h <;> try (cases h; done)
  rename_i hd
  simp only [hid_eq] at h
  exact ⟨_, h, tend_con _ _ (of_decide_eq_true hd)⟩

def tgood_sp : Spec := { keep := true, run := fun _ args k => match args with
  | [.d (.sl (.st (.pair (.int .i64) (.int .i64)))) p] => match decide (farG p) with
    | true => k [RV.d .bool (goodB p)]
    | false => none
  | _ => none }
theorem tgood_spec : callable Try.prog 11 = true ∧ SpecOk Try.prog 11 tgood_sp ∧ ∀ g, tgood_sp.mut_ = some g → MCon Try.prog 11 g := by
  refine ⟨by kernel_rfl, fun R args k r h => ?_, fun g h => by simp [tgood_sp] at h⟩
  unfold tgood_sp at h
  dsimp only at h
  split at h <;> try (cases h; done)
  split at h <;> try (cases h; done)
  rename_i hd
  exact ⟨_, h, tgood_con _ (of_decide_eq_true hd)⟩

def upath_sp : Spec := { keep := true, run := fun _ args k => match args with
  | [.d (.sl (.st (.pair (.int .i64) (.int .i64)))) p] => match decide (farG p) with
    | true => k [RV.d .bool (goodB p)]
    | false => none
  | _ => none }
theorem upath_spec : callable Try.prog 13 = true ∧ SpecOk Try.prog 13 upath_sp ∧ ∀ g, upath_sp.mut_ = some g → MCon Try.prog 13 g := by
  refine ⟨by kernel_rfl, fun R args k r h => ?_, fun g h => by simp [upath_sp] at h⟩
  unfold upath_sp at h
  dsimp only at h
  split at h <;> try (cases h; done)
  split at h <;> try (cases h; done)
  rename_i hd
  exact ⟨_, h, upath_con _ (of_decide_eq_true hd)⟩

def talo_tp : Spec := { keep := true, tame := true, run := fun _ args k => match args with
  | [.d (.st (.pair (.int .i64) (.int .i64))) a, .d (.st (.pair (.int .i64) (.int .i64))) b, .d (.st (.pair (.int .i64) (.int .i64))) x] => k [RV.d (.int .i64) (aloF a b x)]
  | _ => none }
theorem talo_tpec : callable Try.prog 19 = true ∧ SpecOk Try.prog 19 talo_tp ∧ ∀ g, talo_tp.mut_ = some g → MCon Try.prog 19 g := by
  refine ⟨by kernel_rfl, fun R args k r h => ?_, fun g h => by cases h⟩
  unfold talo_tp at h
  dsimp only at h
  split at h <;> try (cases h; done)
  exact ⟨_, h, talo_con _ _ _ ⟩

noncomputable def envTd2 : Env := [(18, ton_tp), (12, tend_tp), (11, tgood_sp), (13, upath_sp), (19, talo_tp)]
theorem envTd2_ok : EnvAll Try.prog envTd2 := ⟨ton_tpec, tend_tpec, tgood_spec, upath_spec, talo_tpec, trivial⟩
def tval_nt : NT := [((10, 14), { keep := [0, 1, 17, 18, 19], hl := 0 })]
noncomputable def tval_C : Ctx := ⟨Try.prog, ft, tys, envTd2, tval_nt⟩
def tval_h14 (p : List ((Int × Int))) (l : List (Int × ((Int × Int)) × (Int × Int))) (s19 : Int) : Cfg := ⟨10, [.blk 0, .seq 57], [(0, .d (.sl tG) p), (1, .d (.sl (.st (.pair (.int .i64) (.pair tG tG)))) l), (17, .d (.sl (.st (.pair (.int .i64) (.pair tG tG)))) l), (18, SI (l.length : Int)), (19, SI s19)], [], 0, []⟩
noncomputable def tval_t (k : Nat → Cfg → Option (List RV)) (p : List ((Int × Int))) (l : List (Int × ((Int × Int)) × (Int × Int))) : Option (List RV) := match decide (farG p) with | true => (match !(goodB p) with | true => some [RV.d .bool false] | false => (match decide ((p.length : Int) < 2) with | true => some [RV.d .bool false] | false => k 14 (tval_h14 p l 0))) | false => none
theorem tval_eq (k : Nat → Cfg → Option (List RV)) (p : List ((Int × Int))) (l : List (Int × ((Int × Int)) × (Int × Int))) : go Try.prog ft tys envTd2 tval_nt k 4000 (start 10 [.d (.sl tG) p, .d (.sl (.st (.pair (.int .i64) (.pair tG tG)))) l]) (.node 0) = tval_t k p l := (go2_eq _ _ _ _ _ _ _ _ _).symm.trans (show go2 Try.prog ft tys envTd2 tval_nt k 4000 (start 10 [.d (.sl tG) p, .d (.sl (.st (.pair (.int .i64) (.pair tG tG)))) l]) (.node 0) = tval_t k p l by kernel_rfl)
theorem tval_s (p : List ((Int × Int))) (l : List (Int × ((Int × Int)) × (Int × Int))) {rX : List RV} (hX : ∃ nX, tval_t (tval_C.k nX) p l = some rX) : tval_C.Res 10 [.d (.sl tG) p, .d (.sl (.st (.pair (.int .i64) (.pair tG tG)))) l] rX := by
  obtain ⟨nX, hX⟩ := hX
  exact ⟨nX, (tval_eq _ p l).trans hX⟩
noncomputable def tval_h14_t (k : Nat → Cfg → Option (List RV)) (p : List ((Int × Int))) (l : List (Int × ((Int × Int)) × (Int × Int))) (s19 : Int) : Option (List RV) := match decide (s19 < (l.length : Int)) with | true => (match getI l s19 with | some x1 => (match decide (x1.1 < 0) with | true => some [RV.d .bool false] | false => (match decide (x1.1 ≥ (p.length : Int)) with | true => some [RV.d .bool false] | false => (match decide (endP p x1.1) with | true => (match !(onB (hid (atG p x1.1)) (hid (atG p (nxG p x1.1))) x1.2.1) with | true => some [RV.d .bool false] | false => (match !(onB (hid (atG p x1.1)) (hid (atG p (nxG p x1.1))) x1.2.2) with | true => some [RV.d .bool false] | false => (match decide ((aloF (hid (atG p x1.1)) (hid (atG p (nxG p x1.1))) x1.2.1) ≥ (aloF (hid (atG p x1.1)) (hid (atG p (nxG p x1.1))) x1.2.2)) with | true => some [RV.d .bool false] | false => (match s19 == 0 with | true => k 14 (tval_h14 p l (IntKind.i64.wrap (s19 + 1))) | false => (match getI l (IntKind.i64.wrap (s19 - 1)) with | some x2 => (match decide (x2.1 < x1.1) with | true => k 14 (tval_h14 p l (IntKind.i64.wrap (s19 + 1))) | false => (match getI l (IntKind.i64.wrap (s19 - 1)) with | some x3 => (match decide (x3.1 > x1.1) with | true => some [RV.d .bool false] | false => (match getI l (IntKind.i64.wrap (s19 - 1)) with | some x4 => (match decide ((aloF (hid (atG p x1.1)) (hid (atG p (nxG p x1.1))) x4.2.2) ≥ (aloF (hid (atG p x1.1)) (hid (atG p (nxG p x1.1))) x1.2.1)) with | true => some [RV.d .bool false] | false => k 14 (tval_h14 p l (IntKind.i64.wrap (s19 + 1)))) | none => none)) | none => none)) | none => none))))) | false => none))) | none => none) | false => some [RV.d .bool true]
theorem tval_h14_eq (k : Nat → Cfg → Option (List RV)) (p : List ((Int × Int))) (l : List (Int × ((Int × Int)) × (Int × Int))) (s19 : Int) : go Try.prog ft tys envTd2 tval_nt k 4000 { tval_h14 p l s19 with K := .lp 14 :: (tval_h14 p l s19).K } (.node 15) = tval_h14_t k p l s19 := (go2_eq _ _ _ _ _ _ _ _ _).symm.trans (show go2 Try.prog ft tys envTd2 tval_nt k 4000 { tval_h14 p l s19 with K := .lp 14 :: (tval_h14 p l s19).K } (.node 15) = tval_h14_t k p l s19 by kernel_rfl)
theorem tval_h14_s (p : List ((Int × Int))) (l : List (Int × ((Int × Int)) × (Int × Int))) (s19 : Int) {rX : List RV} (hX : ∃ nX, tval_h14_t (tval_C.k nX) p l s19 = some rX) : tval_C.Runs 14 (tval_h14 p l s19) rX := by
  obtain ⟨nX, hX⟩ := hX
  exact ⟨nX + 1, (tval_h14_eq _ p l s19).trans hX⟩
def prevT (l : List TB) : Nat → Option TB
  | 0 => none
  | i + 1 => l[i]?
theorem val_step {p : List (Int × Int)} {l : List TB} {i : Nat} (h : i < l.length) : valG p (prevT l i) (l.drop i) = (tabOk p l[i] && ((match prevT l i with | none => true | some s => nextOk p s l[i]) && valG p (prevT l (i + 1)) (l.drop (i + 1)))) := by
  rw [drop_get h]
  have e : prevT l (i + 1) = some l[i] := List.getElem?_eq_getElem h
  rw [e]
  cases i with
  | zero => simp [prevT, valG]
  | succ i =>
    have e2 : prevT l (i + 1) = some l[i] := List.getElem?_eq_getElem (by omega)
    rw [e2]
    rfl
theorem tval_loop (p : List (Int × Int)) (l : List TB) (hp : p.length ≤ 1000000000) (hl : l.length ≤ 1000000000) : ∀ (j i : Nat), i + j = l.length → tval_C.Runs 14 (tval_h14 p l (i : Int)) [.d .bool (valG p (prevT l i) (l.drop i))] := by
  intro j
  induction j with
  | zero =>
    intro i hi
    refine tval_h14_s _ _ _ ⟨0, ?_⟩
    unfold tval_h14_t
    rw [ge_dec (by omega), drop_end (by omega)]
    cases prevT l i <;> rfl
  | succ j ih =>
    intro i hi
    have hil : i < l.length := by omega
    obtain ⟨q, hq⟩ := ih (i + 1) (by omega)
    refine tval_h14_s _ _ _ ⟨q, ?_⟩
    unfold tval_h14_t
    rw [lt_dec hil, getI_nat, List.getElem?_eq_getElem hil, val_step hil]
    dsimp only
    unfold tabOk
    simp only [hid_eq]
    cases h1 : decide (l[i].1 < 0)
    · cases h2 : decide (l[i].1 ≥ (p.length : Int))
      · rw [dT (show endP p l[i].1 from ⟨by have := of_decide_eq_false h1; omega, by have := of_decide_eq_false h2; omega, hp⟩)]
        dsimp only
        cases onB (atG p l[i].1) (atG p (nxG p l[i].1)) l[i].2.1
        · rfl
        · cases onB (atG p l[i].1) (atG p (nxG p l[i].1)) l[i].2.2
          · rfl
          · rw [show aloT p l[i] l[i].2.1 = aloF (atG p l[i].1) (atG p (nxG p l[i].1)) l[i].2.1 from rfl, show aloT p l[i] l[i].2.2 = aloF (atG p l[i].1) (atG p (nxG p l[i].1)) l[i].2.2 from rfl]
            cases decide (aloF (atG p l[i].1) (atG p (nxG p l[i].1)) l[i].2.1 ≥ aloF (atG p l[i].1) (atG p (nxG p l[i].1)) l[i].2.2)
            · cases i with
              | zero => exact hq
              | succ i =>
                have e0 : (((i + 1 : Nat) : Int) == 0) = false := by simp; omega
                have e1 : IntKind.i64.wrap (((i + 1 : Nat) : Int) - 1) = (i : Int) := by rw [wrap64 (by omega) (by omega)]; omega
                have e2 : prevT l (i + 1) = some l[i] := List.getElem?_eq_getElem (by omega)
                have e3 : l[i]? = some l[i] := List.getElem?_eq_getElem (by omega)
                rw [wrapS (k := i + 1) (by omega)]
                simp only [e0, e1, getI_nat, e2, e3]
                unfold nextOk
                cases decide (l[i].1 < l[i + 1].1)
                · cases decide (l[i].1 > l[i + 1].1)
                  · rw [show aloT p l[i + 1] l[i].2.2 = aloF (atG p l[i + 1].1) (atG p (nxG p l[i + 1].1)) l[i].2.2 from rfl, show aloT p l[i + 1] l[i + 1].2.1 = aloF (atG p l[i + 1].1) (atG p (nxG p l[i + 1].1)) l[i + 1].2.1 from rfl]
                    cases decide (aloF (atG p l[i + 1].1) (atG p (nxG p l[i + 1].1)) l[i].2.2 ≥ aloF (atG p l[i + 1].1) (atG p (nxG p l[i + 1].1)) l[i + 1].2.1)
                    · exact hq
                    · rfl
                  · rfl
                · exact hq
            · rfl
      · rfl
    · rfl
theorem tval_con (p : List ((Int × Int))) (l : List (Int × ((Int × Int)) × (Int × Int))) (h : valP p l) : Con Try.prog 10 [.d (.sl tG) p, .d (.sl (.st (.pair (.int .i64) (.pair tG tG)))) l] [.d .bool (valF p l)] := by
  refine Ctx.Res.con (C := tval_C) (ctx_ok envTd2_ok) ?_ (fn := Try.f10) (by kernel_rfl) (by kernel_rfl)
  obtain ⟨hp, hl⟩ := h
  obtain ⟨q, hq⟩ := tval_loop p l hp hl l.length 0 (by omega)
  refine tval_s _ _ ⟨q, ?_⟩
  unfold tval_t valF
  rw [dT hp]
  dsimp only
  cases goodB p
  · rfl
  · cases decide ((p.length : Int) < 2)
    · exact hq
    · rfl
theorem at_ok {p : List (Int × Int)} {i : Int} (h : endP p i) : getI p i = some (atG p i) := by
  obtain ⟨h0, h1, h2⟩ := h
  obtain ⟨k, rfl⟩ := Int.eq_ofNat_of_zero_le h0
  have hk : k < p.length := by omega
  unfold atG
  rw [getI_nat, toNat_nat, List.getElem?_eq_getElem hk, List.getD_eq_getElem?_getD, List.getElem?_eq_getElem hk, Option.getD_some]
theorem nx_ok {p : List (Int × Int)} {i : Int} (h : endP p i) : Int.tmod (IntKind.i64.wrap (i + 1)) (p.length : Int) = nxG p i ∧ getI p (nxG p i) = some (atG p (nxG p i)) := by
  obtain ⟨h0, h1, h2⟩ := h
  have e : 0 ≤ nxG p i ∧ nxG p i < (p.length : Int) := ⟨Int.emod_nonneg _ (by omega), Int.emod_lt_of_pos _ (by omega)⟩
  refine ⟨?_, at_ok ⟨e.1, e.2, h2⟩⟩
  rw [wrap64 (by omega) (by omega), tmodP (by omega)]
  rfl
end Go.Proofs.Ytcaiedfkohigjaa
/- awake of the statements about tabs. -/
namespace Go.Proofs.Ytcaiedfkohigjaa
open Go.RowKit
def halfF (s o : Int) : Int := Int.fdiv (IntKind.i64.wrap ((IntKind.i64.wrap ((IntKind.i64.wrap (s * 2 ^ (min (20 : Int).toNat 64))) + o)) + 1048576)) (2 ^ (min (21 : Int).toNat 64))
def tprt_up : Spec := { keep := true, tame := true, run := fun _ args k => match args with
  | [.d (.int .i64) d, .d (.int .i64) w, .d (.int .i64) n] => match decide (partP d w n) with
    | true => k [RV.d (.int .i64) (partF d w n)]
    | false => none
  | _ => none }
theorem tprt_upec : callable Try.prog 27 = true ∧ SpecOk Try.prog 27 tprt_up ∧ ∀ g, tprt_up.mut_ = some g → MCon Try.prog 27 g := by
  refine ⟨by kernel_rfl, fun R args k r h => ?_, fun g h => by cases h⟩
  unfold tprt_up at h
  dsimp only at h
  split at h <;> try (cases h; done)
  split at h <;> try (cases h; done)
  rename_i hd
  exact ⟨_, h, tprt_con _ _ _ (of_decide_eq_true hd)⟩

def tend_up : Spec := { keep := true, tame := true, run := fun _ args k => match args with
  | [.d (.sl (.st (.pair (.int .i64) (.int .i64)))) p, .d (.int .i64) i] => match decide (endP p i) with
    | true => k [RV.d tG (atG p i), RV.d tG (atG p (nxG p i))]
    | false => none
  | _ => none }
theorem tend_upec : callable Try.prog 12 = true ∧ SpecOk Try.prog 12 tend_up ∧ ∀ g, tend_up.mut_ = some g → MCon Try.prog 12 g := by
  refine ⟨by kernel_rfl, fun R args k r h => ?_, fun g h => by cases h⟩
  unfold tend_up at h
  dsimp only at h
  split at h <;> try (cases h; done)
  split at h <;> try (cases h; done)
  rename_i hd
  exact ⟨_, h, tend_con _ _ (of_decide_eq_true hd)⟩

def ton_up : Spec := { keep := true, tame := true, run := fun _ args k => match args with
  | [.d (.st (.pair (.int .i64) (.int .i64))) a, .d (.st (.pair (.int .i64) (.int .i64))) b, .d (.st (.pair (.int .i64) (.int .i64))) x] => k [RV.d .bool (onB a b x)]
  | _ => none }
theorem ton_upec : callable Try.prog 18 = true ∧ SpecOk Try.prog 18 ton_up ∧ ∀ g, ton_up.mut_ = some g → MCon Try.prog 18 g := by
  refine ⟨by kernel_rfl, fun R args k r h => ?_, fun g h => by cases h⟩
  unfold ton_up at h
  dsimp only at h
  split at h <;> try (cases h; done)
  exact ⟨_, h, ton_con _ _ _ ⟩

def envTe0 : Env := [(27, tprt_up), (12, tend_up), (18, ton_up)]
theorem envTe0_ok : EnvAll Try.prog envTe0 := ⟨tprt_upec, tend_upec, ton_upec, trivial⟩
def thalf_nt : NT := []
noncomputable def thalf_C : Ctx := ⟨Try.prog, ft, tys, envTe0, thalf_nt⟩
noncomputable def thalf_t (_k : Nat → Cfg → Option (List RV)) (s : Int) (o : Int) : Option (List RV) := match decide (20 < (0 : Int)) with | true => none | false => (match decide (21 < (0 : Int)) with | true => none | false => some [RV.d (.int .i64) (Int.fdiv (IntKind.i64.wrap ((IntKind.i64.wrap ((IntKind.i64.wrap (s * 2 ^ (min (20 : Int).toNat 64))) + o)) + 1048576)) (2 ^ (min (21 : Int).toNat 64)))])
theorem thalf_eq (k : Nat → Cfg → Option (List RV)) (s : Int) (o : Int) : go Try.prog ft tys envTe0 thalf_nt k 4000 (start 28 [SI s, SI o]) (.node 0) = thalf_t k s o := (go2_eq _ _ _ _ _ _ _ _ _).symm.trans (show go2 Try.prog ft tys envTe0 thalf_nt k 4000 (start 28 [SI s, SI o]) (.node 0) = thalf_t k s o by kernel_rfl)
theorem thalf_s (s : Int) (o : Int) {rX : List RV} (hX : ∃ nX, thalf_t (thalf_C.k nX) s o = some rX) : thalf_C.Res 28 [SI s, SI o] rX := by
  obtain ⟨nX, hX⟩ := hX
  exact ⟨nX, (thalf_eq _ s o).trans hX⟩
theorem thalf_con (s : Int) (o : Int) : Con Try.prog 28 [.d (.int .i64) s, .d (.int .i64) o] [.d (.int .i64) (halfF s o)] := by
  refine Ctx.Res.con (C := thalf_C) (ctx_ok envTe0_ok) (thalf_s _ _ ⟨0, ?_⟩) (fn := Try.f28) (by kernel_rfl) (by kernel_rfl)
  rfl
def thalf_up : Spec := { keep := true, tame := true, run := fun _ args k => match args with
  | [.d (.int .i64) s, .d (.int .i64) o] => k [RV.d (.int .i64) (halfF s o)]
  | _ => none }
theorem thalf_upec : callable Try.prog 28 = true ∧ SpecOk Try.prog 28 thalf_up ∧ ∀ g, thalf_up.mut_ = some g → MCon Try.prog 28 g := by
  refine ⟨by kernel_rfl, fun R args k r h => ?_, fun g h => by cases h⟩
  unfold thalf_up at h
  dsimp only at h
  split at h <;> try (cases h; done)
  exact ⟨_, h, thalf_con _ _ ⟩

def envTe1 : Env := [(27, tprt_up), (12, tend_up), (18, ton_up), (28, thalf_up), (11, tgood_sp)]
theorem envTe1_ok : EnvAll Try.prog envTe1 := ⟨tprt_upec, tend_upec, ton_upec, thalf_upec, tgood_spec, trivial⟩
noncomputable def ctxTe : Ctx := ⟨Try.prog, ft, tys, envTe1, []⟩
end Go.Proofs.Ytcaiedfkohigjaa
/- awake of the statements about tabs returns true. -/
namespace Go.Proofs.Ytcaiedfkohigjaa
open Go.RowKit
def exP : List (Int × Int) := [(0, 0), (100, 0), (100, 40), (0, 40)]
set_option maxRecDepth 1000000 in
theorem plex220 : Con Try.prog 9 [.d (.sl tG) exP, .d (.int .i64) (2 : Int), .d (.int .i64) (20 : Int)] [.d (.sl (.st (.pair (.int .i64) (.pair tG tG)))) [(0, ((39, 0), (61, 0))), (2, ((61, 40), (39, 40)))], .d (.int .i64) (0 : Int)] := Ctx.Res.con (C := ctxTe) (ctx_ok envTe1_ok) (Ctx.Res.ofK ⟨300, by kernel_rfl⟩) (fn := Try.f9) (by kernel_rfl) (by kernel_rfl)
set_option maxRecDepth 1000000 in
theorem plex320 : Con Try.prog 9 [.d (.sl tG) exP, .d (.int .i64) (3 : Int), .d (.int .i64) (20 : Int)] [.d (.sl (.st (.pair (.int .i64) (.pair tG tG)))) [(0, ((39, 0), (61, 0))), (1, ((100, 9), (100, 31))), (2, ((61, 40), (39, 40)))], .d (.int .i64) (0 : Int)] := Ctx.Res.con (C := ctxTe) (ctx_ok envTe1_ok) (Ctx.Res.ofK ⟨300, by kernel_rfl⟩) (fn := Try.f9) (by kernel_rfl) (by kernel_rfl)
set_option maxRecDepth 1000000 in
theorem plex340 : Con Try.prog 9 [.d (.sl tG) exP, .d (.int .i64) (3 : Int), .d (.int .i64) (40 : Int)] [.d (.sl (.st (.pair (.int .i64) (.pair tG tG)))) [], .d (.int .i64) (16 : Int)] := Ctx.Res.con (C := ctxTe) (ctx_ok envTe1_ok) (Ctx.Res.ofK ⟨300, by kernel_rfl⟩) (fn := Try.f9) (by kernel_rfl) (by kernel_rfl)
def plex_sp : Spec := { keep := false, run := fun _ args k => match args with
  | [.d (.sl (.st (.pair (.int .i64) (.int .i64)))) p, .d (.int .i64) n, .d (.int .i64) w] => match decide (p = exP ∧ n = 2 ∧ w = 20) with
    | true => k [.d (.sl (.st (.pair (.int .i64) (.pair tG tG)))) [(0, ((39, 0), (61, 0))), (2, ((61, 40), (39, 40)))], .d (.int .i64) (0 : Int)]
    | false => match decide (p = exP ∧ n = 3 ∧ w = 20) with
    | true => k [.d (.sl (.st (.pair (.int .i64) (.pair tG tG)))) [(0, ((39, 0), (61, 0))), (1, ((100, 9), (100, 31))), (2, ((61, 40), (39, 40)))], .d (.int .i64) (0 : Int)]
    | false => match decide (p = exP ∧ n = 3 ∧ w = 40) with
    | true => k [.d (.sl (.st (.pair (.int .i64) (.pair tG tG)))) [], .d (.int .i64) (16 : Int)]
    | false => none
  | _ => none }
theorem plex_spec : callable Try.prog 9 = true ∧ SpecOk Try.prog 9 plex_sp ∧ ∀ g, plex_sp.mut_ = some g → MCon Try.prog 9 g := by
  refine ⟨by kernel_rfl, fun R args k r h => ?_, fun g h => by simp [plex_sp] at h⟩
  unfold plex_sp at h
  dsimp only at h
  split at h <;> try (cases h; done)
  split at h
  · rename_i hd
    obtain ⟨rfl, rfl, rfl⟩ := of_decide_eq_true hd
    exact ⟨_, h, plex220⟩
  split at h
  · rename_i hd
    obtain ⟨rfl, rfl, rfl⟩ := of_decide_eq_true hd
    exact ⟨_, h, plex320⟩
  split at h
  · rename_i hd
    obtain ⟨rfl, rfl, rfl⟩ := of_decide_eq_true hd
    exact ⟨_, h, plex340⟩
  cases h
theorem seg_on {a b x : Rat × Rat} (h0 : decide (cgR a b x x = false) = true) (h1 : decide (tosR a b x = 0) = true) (h3 : decide (0 ≤ tosR x x a) = true) (h4 : decide (0 ≤ tosR x x b) = true) : segR a b x x = 0 := by
  have h0 := of_decide_eq_true h0
  have h1 := of_decide_eq_true h1
  have h3 := of_decide_eq_true h3
  have h4 := of_decide_eq_true h4
  have m1 : minR 0 0 = 0 := by
    unfold minR
    rw [dF (show ¬ (0 : Rat) < 0 by grind)]
    rfl
  have m2 : ∀ q : Rat, 0 ≤ q → minR 0 q = 0 := fun q hq => by
    unfold minR
    rw [dF (show ¬ q < 0 by grind)]
    rfl
  unfold segR
  rw [h0]
  simp only [cond_false]
  rw [h1, m1, m2 _ h3, m2 _ h4]
theorem on_x {a b x : Int × Int} (hf : farL [a.1, a.2, b.1, b.2, x.1, x.2] = false) (h0 : decide (cgR (vecR a) (vecR b) (vecR x) (vecR x) = false) = true) (h1 : decide (tosR (vecR a) (vecR b) (vecR x) = 0) = true) (h3 : decide (0 ≤ tosR (vecR x) (vecR x) (vecR a)) = true) (h4 : decide (0 ≤ tosR (vecR x) (vecR x) (vecR b)) = true) : onB a b x = true := by
  unfold onB
  rw [hf, seg_on h0 h1 h3 h4]
  decide +kernel
theorem v3 : valF exP [(0, ((39, 0), (61, 0))), (1, ((100, 9), (100, 31))), (2, ((61, 40), (39, 40)))] = true := by
  have f1 : onB (0, 0) (100, 0) (39, 0) = true := on_x (by kernel_rfl) (by kernel_rfl) (by kernel_rfl) (by kernel_rfl) (by kernel_rfl)
  have f2 : onB (0, 0) (100, 0) (61, 0) = true := on_x (by kernel_rfl) (by kernel_rfl) (by kernel_rfl) (by kernel_rfl) (by kernel_rfl)
  have f3 : onB (100, 0) (100, 40) (100, 9) = true := on_x (by kernel_rfl) (by kernel_rfl) (by kernel_rfl) (by kernel_rfl) (by kernel_rfl)
  have f4 : onB (100, 0) (100, 40) (100, 31) = true := on_x (by kernel_rfl) (by kernel_rfl) (by kernel_rfl) (by kernel_rfl) (by kernel_rfl)
  have f5 : onB (100, 40) (0, 40) (61, 40) = true := on_x (by kernel_rfl) (by kernel_rfl) (by kernel_rfl) (by kernel_rfl) (by kernel_rfl)
  have f6 : onB (100, 40) (0, 40) (39, 40) = true := on_x (by kernel_rfl) (by kernel_rfl) (by kernel_rfl) (by kernel_rfl) (by kernel_rfl)
  have g0 : atG exP 0 = (0, 0) := by kernel_rfl
  have g0' : atG exP (nxG exP 0) = (100, 0) := by kernel_rfl
  have g1 : atG exP 1 = (100, 0) := by kernel_rfl
  have g1' : atG exP (nxG exP 1) = (100, 40) := by kernel_rfl
  have g2 : atG exP 2 = (100, 40) := by kernel_rfl
  have g2' : atG exP (nxG exP 2) = (0, 40) := by kernel_rfl
  simp only [valF, valG, tabOk, nextOk, aloT, g0, g0', g1, g1', g2, g2', f1, f2, f3, f4, f5, f6]
  decide +kernel
theorem vaex : Con Try.prog 10 [.d (.sl tG) exP, .d (.sl (.st (.pair (.int .i64) (.pair tG tG)))) [(0, ((39, 0), (61, 0))), (1, ((100, 9), (100, 31))), (2, ((61, 40), (39, 40)))]] [.d .bool true] := by
  have h := tval_con exP [(0, ((39, 0), (61, 0))), (1, ((100, 9), (100, 31))), (2, ((61, 40), (39, 40)))] ⟨by show exP.length ≤ 1000000000; decide, by decide⟩
  rw [v3] at h
  exact h
def vaex_sp : Spec := { keep := true, run := fun _ args k => match args with
  | [.d (.sl (.st (.pair (.int .i64) (.int .i64)))) p, .d (.sl (.st (.pair (.int .i64) (.pair (.st (.pair (.int .i64) (.int .i64))) (.st (.pair (.int .i64) (.int .i64))))))) l] => match decide (p = exP ∧ l = [(0, ((39, 0), (61, 0))), (1, ((100, 9), (100, 31))), (2, ((61, 40), (39, 40)))]) with
    | true => k [.d .bool true]
    | false => none
  | _ => none }
theorem vaex_spec : callable Try.prog 10 = true ∧ SpecOk Try.prog 10 vaex_sp ∧ ∀ g, vaex_sp.mut_ = some g → MCon Try.prog 10 g := by
  refine ⟨by kernel_rfl, fun R args k r h => ?_, fun g h => by simp [vaex_sp] at h⟩
  unfold vaex_sp at h
  dsimp only at h
  split at h <;> try (cases h; done)
  split at h <;> try (cases h; done)
  rename_i hd
  obtain ⟨rfl, rfl⟩ := of_decide_eq_true hd
  exact ⟨_, h, vaex⟩
def envTe2 : Env := [(9, plex_sp), (10, vaex_sp), (27, tprt_up), (12, tend_up), (18, ton_up), (28, thalf_up), (11, tgood_sp)]
theorem envTe2_ok : EnvAll Try.prog envTe2 := ⟨plex_spec, vaex_spec, tprt_upec, tend_upec, ton_upec, thalf_upec, tgood_spec, trivial⟩
noncomputable def ctxTf : Ctx := ⟨Try.prog, ft, tys, envTe2, []⟩
set_option maxRecDepth 1000000 in
theorem tawk_con : Con Try.prog 4 [] [.d .bool true] := Ctx.Res.con (C := ctxTf) (ctx_ok envTe2_ok) (Ctx.Res.ofK ⟨300, by kernel_rfl⟩) (fn := Try.f4) (by kernel_rfl) (by kernel_rfl)
end Go.Proofs.Ytcaiedfkohigjaa
/- tabs: of, slices.Clone of positions. -/
namespace Go.Proofs.Ytcaiedfkohigjaa
open Go.RowKit
theorem app_ok2 {n m k : Nat} (h1 : n + m ≤ 100000000) (hk : k ≤ 1000000) : decide ((n + m) * k ≤ 140737488355328 ∧ n + m ≤ 140737488355328) = true := by
  refine decide_eq_true ⟨?_, by omega⟩
  have := Nat.mul_le_mul h1 hk
  omega
def tcl_nt : NT := []
noncomputable def tcl_C : Ctx := ⟨Try.prog, ft, tys, [], tcl_nt⟩
noncomputable def tcl_t (_k : Nat → Cfg → Option (List RV)) (p : List ((Int × Int))) : Option (List RV) := match p with | [] => both (some [RV.new 29 tG []]) (match decide ((([] : List ((Int × Int))).length + p.length) * 16 ≤ 140737488355328 ∧ ([] : List ((Int × Int))).length + p.length ≤ 140737488355328) with | true => some [RV.new 29 tG (([] : List ((Int × Int))) ++ p)] | false => none) | _ :: _ => (match decide ((([] : List ((Int × Int))).length + p.length) * 16 ≤ 140737488355328 ∧ ([] : List ((Int × Int))).length + p.length ≤ 140737488355328) with | true => some [RV.new 29 tG (([] : List ((Int × Int))) ++ p)] | false => none)
theorem tcl_eq (k : Nat → Cfg → Option (List RV)) (p : List ((Int × Int))) : go Try.prog ft tys [] tcl_nt k 4000 (start 7 [.d (.sl tG) p]) (.node 0) = tcl_t k p := (go2_eq _ _ _ _ _ _ _ _ _).symm.trans (show go2 Try.prog ft tys [] tcl_nt k 4000 (start 7 [.d (.sl tG) p]) (.node 0) = tcl_t k p by kernel_rfl)
theorem tcl_s (p : List ((Int × Int))) {rX : List RV} (hX : ∃ nX, tcl_t (tcl_C.k nX) p = some rX) : tcl_C.Res 7 [.d (.sl tG) p] rX := by
  obtain ⟨nX, hX⟩ := hX
  exact ⟨nX, (tcl_eq _ p).trans hX⟩
theorem tcl_con (p : List ((Int × Int))) (h : p.length ≤ 1000000) : Con Try.prog 7 [.d (.sl tG) p] [.new 29 tG p] := by
  refine Ctx.Res.con (C := tcl_C) (ctx_ok (E := []) trivial) ?_ (fn := Try.f7) (by kernel_rfl) (by kernel_rfl)
  refine tcl_s _ ⟨0, ?_⟩
  unfold tcl_t
  have e := app_ok2 (n := ([] : List (Int × Int)).length) (m := p.length) (k := 16) (by simp; omega) (by omega)
  rw [e]
  cases p with
  | nil => exact both_self _
  | cons a p => rfl
end Go.Proofs.Ytcaiedfkohigjaa
/- tabs: Lengths of both sides, slices.Equal. -/
namespace Go.Proofs.Ytcaiedfkohigjaa
open Go.RowKit
def segLn (p : List (Int × Int)) (i : Nat) : Int := max4 (IntKind.i64.wrap ((atG p (i : Int)).1 - (atG p (nxG p (i : Int))).1)) (IntKind.i64.wrap ((atG p (nxG p (i : Int))).1 - (atG p (i : Int)).1)) (IntKind.i64.wrap ((atG p (i : Int)).2 - (atG p (nxG p (i : Int))).2)) (IntKind.i64.wrap ((atG p (nxG p (i : Int))).2 - (atG p (i : Int)).2))
def lenF (p : List (Int × Int)) : List Int := bif goodB p then (List.range' 0 p.length).map (segLn p) else []
def lenP (p : List (Int × Int)) : Prop := p.length ≤ 1000000
instance (p : List (Int × Int)) : Decidable (lenP p) := by unfold lenP; infer_instance
noncomputable def envTh1 : Env := [(12, tend_tp), (11, tgood_sp), (13, upath_sp)]
theorem envTh1_ok : EnvAll Try.prog envTh1 := ⟨tend_tpec, tgood_spec, upath_spec, trivial⟩
def tlen_nt : NT := [((6, 16), { keep := [0, 3, 14, 15], hl := 1 })]
noncomputable def tlen_C : Ctx := ⟨Try.prog, ft, tys, envTh1, tlen_nt⟩
def tlen_h16 (p : List ((Int × Int))) (s15 : Int) (r0 : List Int) : Cfg := ⟨6, [.blk 0, .seq 31], [(0, .d (.sl tG) p), (3, .own 0), (14, SI (p.length : Int)), (15, SI s15)], [.row 2 (.int .i64) r0], 0, []⟩
noncomputable def tlen_t (k : Nat → Cfg → Option (List RV)) (p : List ((Int × Int))) : Option (List RV) := match decide (farG p) with | true => (match !(goodB p) with | true => some [RV.new 2 (.int .i64) []] | false => (match decide ((0 : Int) ≤ (p.length : Int) ∧ (p.length : Int) * ((8 : Nat) : Int) ≤ 140737488355328 ∧ (p.length : Int) ≤ 140737488355328) with | true => k 16 (tlen_h16 p 0 (List.replicate ((p.length : Int)).toNat (0 : Int))) | false => none)) | false => none
theorem tlen_eq (k : Nat → Cfg → Option (List RV)) (p : List ((Int × Int))) : go Try.prog ft tys envTh1 tlen_nt k 4000 (start 6 [.d (.sl tG) p]) (.node 0) = tlen_t k p := (go2_eq _ _ _ _ _ _ _ _ _).symm.trans (show go2 Try.prog ft tys envTh1 tlen_nt k 4000 (start 6 [.d (.sl tG) p]) (.node 0) = tlen_t k p by kernel_rfl)
theorem tlen_s (p : List ((Int × Int))) {rX : List RV} (hX : ∃ nX, tlen_t (tlen_C.k nX) p = some rX) : tlen_C.Res 6 [.d (.sl tG) p] rX := by
  obtain ⟨nX, hX⟩ := hX
  exact ⟨nX, (tlen_eq _ p).trans hX⟩
noncomputable def tlen_h16_t (k : Nat → Cfg → Option (List RV)) (p : List ((Int × Int))) (s15 : Int) (r0 : List Int) : Option (List RV) := match decide (s15 < (p.length : Int)) with | true => (match decide (endP p s15) with | true => (match getI r0 s15 with | some _ => (match true, r0[(s15).toNat]? with | true, some _ => k 16 (tlen_h16 p (IntKind.i64.wrap (s15 + 1)) (r0.set ((s15).toNat) (max4 (IntKind.i64.wrap (((hid (atG p s15)).1) - ((hid (atG p (nxG p s15))).1))) (IntKind.i64.wrap (((hid (atG p (nxG p s15))).1) - ((hid (atG p s15)).1))) (IntKind.i64.wrap (((hid (atG p s15)).2) - ((hid (atG p (nxG p s15))).2))) (IntKind.i64.wrap (((hid (atG p (nxG p s15))).2) - ((hid (atG p s15)).2)))))) | _, _ => none) | none => none) | false => none) | false => some [RV.new 2 (.int .i64) r0]
theorem tlen_h16_eq (k : Nat → Cfg → Option (List RV)) (p : List ((Int × Int))) (s15 : Int) (r0 : List Int) : go Try.prog ft tys envTh1 tlen_nt k 4000 { tlen_h16 p s15 r0 with K := .lp 16 :: (tlen_h16 p s15 r0).K } (.node 17) = tlen_h16_t k p s15 r0 := (go2_eq _ _ _ _ _ _ _ _ _).symm.trans (show go2 Try.prog ft tys envTh1 tlen_nt k 4000 { tlen_h16 p s15 r0 with K := .lp 16 :: (tlen_h16 p s15 r0).K } (.node 17) = tlen_h16_t k p s15 r0 by kernel_rfl)
theorem tlen_h16_s (p : List ((Int × Int))) (s15 : Int) (r0 : List Int) {rX : List RV} (hX : ∃ nX, tlen_h16_t (tlen_C.k nX) p s15 r0 = some rX) : tlen_C.Runs 16 (tlen_h16 p s15 r0) rX := by
  obtain ⟨nX, hX⟩ := hX
  exact ⟨nX + 1, (tlen_h16_eq _ p s15 r0).trans hX⟩
def ulen_nt : NT := [((8, 16), { keep := [0, 3, 4], own := [(3, 2, .int .i64)], hl := 1 })]
noncomputable def ulen_C : Ctx := ⟨Try.prog, ft, tys, envTh1, ulen_nt⟩
def ulen_h16 (p : List ((Int × Int))) (s4 : Int) (r0 : List Int) : Cfg := ⟨8, [.blk 0, .seq 29], [(0, .d (.sl tG) p), (3, .own 0), (4, SI s4)], [.row 2 (.int .i64) r0], 0, []⟩
noncomputable def ulen_t (k : Nat → Cfg → Option (List RV)) (p : List ((Int × Int))) : Option (List RV) := match decide (farG p) with | true => (match !(goodB p) with | true => some [RV.new 2 (.int .i64) []] | false => k 16 (ulen_h16 p 0 ([]))) | false => none
theorem ulen_eq (k : Nat → Cfg → Option (List RV)) (p : List ((Int × Int))) : go Try.prog ft tys envTh1 ulen_nt k 4000 (start 8 [.d (.sl tG) p]) (.node 0) = ulen_t k p := (go2_eq _ _ _ _ _ _ _ _ _).symm.trans (show go2 Try.prog ft tys envTh1 ulen_nt k 4000 (start 8 [.d (.sl tG) p]) (.node 0) = ulen_t k p by kernel_rfl)
theorem ulen_s (p : List ((Int × Int))) {rX : List RV} (hX : ∃ nX, ulen_t (ulen_C.k nX) p = some rX) : ulen_C.Res 8 [.d (.sl tG) p] rX := by
  obtain ⟨nX, hX⟩ := hX
  exact ⟨nX, (ulen_eq _ p).trans hX⟩
noncomputable def ulen_h16_t (k : Nat → Cfg → Option (List RV)) (p : List ((Int × Int))) (s4 : Int) (r0 : List Int) : Option (List RV) := match decide (s4 < (p.length : Int)) with | true => (match getI p s4 with | some x1 => (match decide ((p.length : Int) = (0 : Int)) with | true => none | false => (match getI p (Int.tmod (IntKind.i64.wrap (s4 + 1)) (p.length : Int)) with | some x2 => (match decide ((r0.length + ([max4 (IntKind.i64.wrap (x1.1 - x2.1)) (IntKind.i64.wrap (x2.1 - x1.1)) (IntKind.i64.wrap (x1.2 - x2.2)) (IntKind.i64.wrap (x2.2 - x1.2))]).length) * 8 ≤ 140737488355328 ∧ r0.length + ([max4 (IntKind.i64.wrap (x1.1 - x2.1)) (IntKind.i64.wrap (x2.1 - x1.1)) (IntKind.i64.wrap (x1.2 - x2.2)) (IntKind.i64.wrap (x2.2 - x1.2))]).length ≤ 140737488355328) with | true => k 16 (ulen_h16 p (IntKind.i64.wrap (s4 + 1)) (r0 ++ ([max4 (IntKind.i64.wrap (x1.1 - x2.1)) (IntKind.i64.wrap (x2.1 - x1.1)) (IntKind.i64.wrap (x1.2 - x2.2)) (IntKind.i64.wrap (x2.2 - x1.2))]))) | false => none) | none => none)) | none => none) | false => some [RV.new 2 (.int .i64) r0]
theorem ulen_h16_eq (k : Nat → Cfg → Option (List RV)) (p : List ((Int × Int))) (s4 : Int) (r0 : List Int) : go Try.prog ft tys envTh1 ulen_nt k 4000 { ulen_h16 p s4 r0 with K := .lp 16 :: (ulen_h16 p s4 r0).K } (.node 17) = ulen_h16_t k p s4 r0 := (go2_eq _ _ _ _ _ _ _ _ _).symm.trans (show go2 Try.prog ft tys envTh1 ulen_nt k 4000 { ulen_h16 p s4 r0 with K := .lp 16 :: (ulen_h16 p s4 r0).K } (.node 17) = ulen_h16_t k p s4 r0 by kernel_rfl)
theorem ulen_h16_s (p : List ((Int × Int))) (s4 : Int) (r0 : List Int) {rX : List RV} (hX : ∃ nX, ulen_h16_t (ulen_C.k nX) p s4 r0 = some rX) : ulen_C.Runs 16 (ulen_h16 p s4 r0) rX := by
  obtain ⟨nX, hX⟩ := hX
  exact ⟨nX + 1, (ulen_h16_eq _ p s4 r0).trans hX⟩
theorem tlen_loop (p : List (Int × Int)) (hp : p.length ≤ 1000000) : ∀ j i, i + j = p.length → ∀ A : List Int, A.length = i → tlen_C.Runs 16 (tlen_h16 p (i : Int) (A ++ List.replicate j 0)) [.new 2 (.int .i64) (A ++ (List.range' i j).map (segLn p))] := by
  intro j
  induction j with
  | zero =>
    intro i hi A hA
    refine tlen_h16_s _ _ _ ⟨0, ?_⟩
    unfold tlen_h16_t
    rw [ge_dec (by omega), List.range'_zero, List.map_nil, List.replicate_zero]
  | succ j ih =>
    intro i hi A hA
    have hend : endP p (i : Int) := ⟨by omega, by omega, by omega⟩
    obtain ⟨q, hq⟩ := ih (i + 1) (by omega) (A ++ [segLn p i]) (by simp; omega)
    refine tlen_h16_s _ _ _ ⟨q, ?_⟩
    unfold tlen_h16_t
    have hg : (A ++ List.replicate (j + 1) (0 : Int))[i]? = some 0 := by
      rw [List.getElem?_append_right (by omega), hA, Nat.sub_self, List.replicate_succ]
      rfl
    have hs : (A ++ List.replicate (j + 1) (0 : Int)).set i (segLn p i) = (A ++ [segLn p i]) ++ List.replicate j 0 := by
      rw [List.set_append, if_neg (by omega), hA, Nat.sub_self, List.replicate_succ, List.set_cons_zero]
      simp
    rw [lt_dec (by omega), dT hend, getI_nat, toNat_nat, hg, wrapS (by omega)]
    simp only [hid_eq]
    rw [show max4 (IntKind.i64.wrap ((atG p (i : Int)).1 - (atG p (nxG p (i : Int))).1)) (IntKind.i64.wrap ((atG p (nxG p (i : Int))).1 - (atG p (i : Int)).1)) (IntKind.i64.wrap ((atG p (i : Int)).2 - (atG p (nxG p (i : Int))).2)) (IntKind.i64.wrap ((atG p (nxG p (i : Int))).2 - (atG p (i : Int)).2)) = segLn p i from rfl, hs, List.range'_succ, List.map_cons]
    rw [show A ++ segLn p i :: List.map (segLn p) (List.range' (i + 1) j) = A ++ [segLn p i] ++ List.map (segLn p) (List.range' (i + 1) j) by simp]
    exact hq
theorem tlen_con (p : List ((Int × Int))) (h : lenP p) : Con Try.prog 6 [.d (.sl tG) p] [.new 2 (.int .i64) (lenF p)] := by
  refine Ctx.Res.con (C := tlen_C) (ctx_ok envTh1_ok) ?_ (fn := Try.f6) (by kernel_rfl) (by kernel_rfl)
  have h : p.length ≤ 1000000 := h
  have hl := tlen_loop p h p.length 0 (by omega) [] rfl
  refine tlen_s _ ?_
  unfold tlen_t lenF
  rw [dT (show farG p by show p.length ≤ 1000000000; omega)]
  cases goodB p
  · exact ⟨0, rfl⟩
  · rw [dT (show (0 : Int) ≤ (p.length : Int) ∧ (p.length : Int) * ((8 : Nat) : Int) ≤ 140737488355328 ∧ (p.length : Int) ≤ 140737488355328 by omega), toNat_nat]
    exact hl
theorem ulen_loop (p : List (Int × Int)) (hp : p.length ≤ 1000000) : ∀ j i, i + j = p.length → ∀ A : List Int, A.length = i → ulen_C.Runs 16 (ulen_h16 p (i : Int) A) [.new 2 (.int .i64) (A ++ (List.range' i j).map (segLn p))] := by
  intro j
  induction j with
  | zero =>
    intro i hi A hA
    refine ulen_h16_s _ _ _ ⟨0, ?_⟩
    unfold ulen_h16_t
    rw [ge_dec (by omega), List.range'_zero, List.map_nil, List.append_nil]
  | succ j ih =>
    intro i hi A hA
    have hend : endP p (i : Int) := ⟨by omega, by omega, by omega⟩
    obtain ⟨n1, n2⟩ := nx_ok hend
    obtain ⟨q, hq⟩ := ih (i + 1) (by omega) (A ++ [segLn p i]) (by simp; omega)
    refine ulen_h16_s _ _ _ ⟨q, ?_⟩
    unfold ulen_h16_t
    rw [lt_dec (by omega), at_ok hend, n1, n2, dF (show ¬ (p.length : Int) = 0 by omega), wrapS (by omega)]
    dsimp only
    rw [List.length_singleton, app_ok2 (by omega) (by omega), show max4 (IntKind.i64.wrap ((atG p (i : Int)).1 - (atG p (nxG p (i : Int))).1)) (IntKind.i64.wrap ((atG p (nxG p (i : Int))).1 - (atG p (i : Int)).1)) (IntKind.i64.wrap ((atG p (i : Int)).2 - (atG p (nxG p (i : Int))).2)) (IntKind.i64.wrap ((atG p (nxG p (i : Int))).2 - (atG p (i : Int)).2)) = segLn p i from rfl, List.range'_succ, List.map_cons]
    rw [show A ++ segLn p i :: List.map (segLn p) (List.range' (i + 1) j) = A ++ [segLn p i] ++ List.map (segLn p) (List.range' (i + 1) j) by simp]
    exact hq
theorem ulen_con (p : List ((Int × Int))) (h : lenP p) : Con Try.prog 8 [.d (.sl tG) p] [.new 2 (.int .i64) (lenF p)] := by
  refine Ctx.Res.con (C := ulen_C) (ctx_ok envTh1_ok) ?_ (fn := Try.f8) (by kernel_rfl) (by kernel_rfl)
  have h : p.length ≤ 1000000 := h
  have hl := ulen_loop p h p.length 0 (by omega) [] rfl
  refine ulen_s _ ?_
  unfold ulen_t lenF
  rw [dT (show farG p by show p.length ≤ 1000000000; omega)]
  cases goodB p
  · exact ⟨0, rfl⟩
  · exact hl
def teqi_nt : NT := [((5, 14), { keep := [0, 1, 12, 13], hl := 0 })]
noncomputable def teqi_C : Ctx := ⟨Try.prog, ft, tys, envTh1, teqi_nt⟩
def teqi_h14 (a : List Int) (b : List Int) (s13 : Int) : Cfg := ⟨5, [.blk 0, .seq 33], [(0, .d (.sl (.int .i64)) a), (1, .d (.sl (.int .i64)) b), (12, SI (a.length : Int)), (13, SI s13)], [], 0, []⟩
noncomputable def teqi_t (k : Nat → Cfg → Option (List RV)) (a : List Int) (b : List Int) : Option (List RV) := match (a.length : Int) != (b.length : Int) with | true => some [RV.d .bool false] | false => k 14 (teqi_h14 a b 0)
theorem teqi_eq (k : Nat → Cfg → Option (List RV)) (a : List Int) (b : List Int) : go Try.prog ft tys envTh1 teqi_nt k 4000 (start 5 [.d (.sl (.int .i64)) a, .d (.sl (.int .i64)) b]) (.node 0) = teqi_t k a b := (go2_eq _ _ _ _ _ _ _ _ _).symm.trans (show go2 Try.prog ft tys envTh1 teqi_nt k 4000 (start 5 [.d (.sl (.int .i64)) a, .d (.sl (.int .i64)) b]) (.node 0) = teqi_t k a b by kernel_rfl)
theorem teqi_s (a : List Int) (b : List Int) {rX : List RV} (hX : ∃ nX, teqi_t (teqi_C.k nX) a b = some rX) : teqi_C.Res 5 [.d (.sl (.int .i64)) a, .d (.sl (.int .i64)) b] rX := by
  obtain ⟨nX, hX⟩ := hX
  exact ⟨nX, (teqi_eq _ a b).trans hX⟩
noncomputable def teqi_h14_t (k : Nat → Cfg → Option (List RV)) (a : List Int) (b : List Int) (s13 : Int) : Option (List RV) := match decide (s13 < (a.length : Int)) with | true => (match getI a s13 with | some x1 => (match getI b s13 with | some x2 => (match x1 != x2 with | true => some [RV.d .bool false] | false => k 14 (teqi_h14 a b (IntKind.i64.wrap (s13 + 1)))) | none => none) | none => none) | false => some [RV.d .bool true]
theorem teqi_h14_eq (k : Nat → Cfg → Option (List RV)) (a : List Int) (b : List Int) (s13 : Int) : go Try.prog ft tys envTh1 teqi_nt k 4000 { teqi_h14 a b s13 with K := .lp 14 :: (teqi_h14 a b s13).K } (.node 15) = teqi_h14_t k a b s13 := (go2_eq _ _ _ _ _ _ _ _ _).symm.trans (show go2 Try.prog ft tys envTh1 teqi_nt k 4000 { teqi_h14 a b s13 with K := .lp 14 :: (teqi_h14 a b s13).K } (.node 15) = teqi_h14_t k a b s13 by kernel_rfl)
theorem teqi_h14_s (a : List Int) (b : List Int) (s13 : Int) {rX : List RV} (hX : ∃ nX, teqi_h14_t (teqi_C.k nX) a b s13 = some rX) : teqi_C.Runs 14 (teqi_h14 a b s13) rX := by
  obtain ⟨nX, hX⟩ := hX
  exact ⟨nX + 1, (teqi_h14_eq _ a b s13).trans hX⟩
theorem teqi_loop (a b : List Int) (ha : a.length ≤ 1000000) (hab : a.length = b.length) : ∀ (j i : Nat), i + j = a.length → teqi_C.Runs 14 (teqi_h14 a b (i : Int)) [.d .bool (decide (a.drop i = b.drop i))] := by
  intro j
  induction j with
  | zero =>
    intro i hi
    refine teqi_h14_s _ _ _ ⟨0, ?_⟩
    unfold teqi_h14_t
    rw [ge_dec (by omega), drop_end (by omega), drop_end (by omega)]
    rfl
  | succ j ih =>
    intro i hi
    have hil : i < a.length := by omega
    have hib : i < b.length := by omega
    obtain ⟨q, hq⟩ := ih (i + 1) (by omega)
    refine teqi_h14_s _ _ _ ⟨q, ?_⟩
    unfold teqi_h14_t
    rw [lt_dec hil, getI_nat, List.getElem?_eq_getElem hil, getI_nat, List.getElem?_eq_getElem hib, drop_get hil, drop_get hib, wrapS (by omega)]
    dsimp only
    by_cases e : a[i] = b[i]
    · rw [e, show (b[i] != b[i]) = false by simp]
      dsimp only
      rw [show decide (b[i] :: a.drop (i + 1) = b[i] :: b.drop (i + 1)) = decide (a.drop (i + 1) = b.drop (i + 1)) from decide_eq_decide.2 ⟨fun h => (List.cons.inj h).2, fun h => by rw [h]⟩]
      exact hq
    · rw [show (a[i] != b[i]) = true by simpa using e, dF (show ¬ (a[i] :: a.drop (i + 1) = b[i] :: b.drop (i + 1)) from fun h => e (List.cons.inj h).1)]
theorem teqi_con (a : List Int) (b : List Int) (h : a.length ≤ 1000000) : Con Try.prog 5 [.d (.sl (.int .i64)) a, .d (.sl (.int .i64)) b] [.d .bool (decide (a = b))] := by
  refine Ctx.Res.con (C := teqi_C) (ctx_ok envTh1_ok) ?_ (fn := Try.f5) (by kernel_rfl) (by kernel_rfl)
  by_cases hab : a.length = b.length
  · obtain ⟨q, hq⟩ := teqi_loop a b h hab a.length 0 (by omega)
    refine teqi_s _ _ ⟨q, ?_⟩
    unfold teqi_t
    rw [show ((a.length : Int) != (b.length : Int)) = false by simp; omega]
    exact hq
  · refine teqi_s _ _ ⟨0, ?_⟩
    unfold teqi_t
    rw [show ((a.length : Int) != (b.length : Int)) = true by simp; omega, dF (show ¬ a = b from fun e => hab (by rw [e]))]
end Go.Proofs.Ytcaiedfkohigjaa
/- The law TabsLengths returns true. -/
namespace Go.Proofs.Ytcaiedfkohigjaa
open Go.RowKit
def tawk_tp : Spec := { keep := true, tame := true, run := fun _ args k => match args with
  | [] => k [RV.d .bool true]
  | _ => none }
theorem tawk_tpec : callable Try.prog 4 = true ∧ SpecOk Try.prog 4 tawk_tp ∧ ∀ g, tawk_tp.mut_ = some g → MCon Try.prog 4 g := by
  refine ⟨by kernel_rfl, fun R args k r h => ?_, fun g h => by cases h⟩
  unfold tawk_tp at h
  dsimp only at h
  split at h <;> try (cases h; done)
  exact ⟨_, h, tawk_con ⟩

def tcl_sp : Spec := { keep := true, run := fun _ args k => match args with
  | [.d (.sl (.st (.pair (.int .i64) (.int .i64)))) p] => match decide (p.length ≤ 1000000) with
    | true => k [RV.new 29 tG p]
    | false => none
  | _ => none }
theorem tcl_spec : callable Try.prog 7 = true ∧ SpecOk Try.prog 7 tcl_sp ∧ ∀ g, tcl_sp.mut_ = some g → MCon Try.prog 7 g := by
  refine ⟨by kernel_rfl, fun R args k r h => ?_, fun g h => by simp [tcl_sp] at h⟩
  unfold tcl_sp at h
  dsimp only at h
  split at h <;> try (cases h; done)
  split at h <;> try (cases h; done)
  rename_i hd
  exact ⟨_, h, tcl_con _ (of_decide_eq_true hd)⟩

def tlen_sp : Spec := { keep := true, run := fun _ args k => match args with
  | [.d (.sl (.st (.pair (.int .i64) (.int .i64)))) p] => match decide (lenP p) with
    | true => k [RV.new 2 (.int .i64) (lenF p)]
    | false => none
  | _ => none }
theorem tlen_spec : callable Try.prog 6 = true ∧ SpecOk Try.prog 6 tlen_sp ∧ ∀ g, tlen_sp.mut_ = some g → MCon Try.prog 6 g := by
  refine ⟨by kernel_rfl, fun R args k r h => ?_, fun g h => by simp [tlen_sp] at h⟩
  unfold tlen_sp at h
  dsimp only at h
  split at h <;> try (cases h; done)
  split at h <;> try (cases h; done)
  rename_i hd
  exact ⟨_, h, tlen_con _ (of_decide_eq_true hd)⟩

def ulen_sp : Spec := { keep := true, run := fun _ args k => match args with
  | [.d (.sl (.st (.pair (.int .i64) (.int .i64)))) p] => match decide (lenP p) with
    | true => k [RV.new 2 (.int .i64) (lenF p)]
    | false => none
  | _ => none }
theorem ulen_spec : callable Try.prog 8 = true ∧ SpecOk Try.prog 8 ulen_sp ∧ ∀ g, ulen_sp.mut_ = some g → MCon Try.prog 8 g := by
  refine ⟨by kernel_rfl, fun R args k r h => ?_, fun g h => by simp [ulen_sp] at h⟩
  unfold ulen_sp at h
  dsimp only at h
  split at h <;> try (cases h; done)
  split at h <;> try (cases h; done)
  rename_i hd
  exact ⟨_, h, ulen_con _ (of_decide_eq_true hd)⟩

def teqi_sp : Spec := { keep := true, run := fun _ args k => match args with
  | [.d (.sl (.int .i64)) a, .d (.sl (.int .i64)) b] => match decide (a.length ≤ 1000000) with
    | true => k [RV.d .bool (decide (a = b))]
    | false => none
  | _ => none }
theorem teqi_spec : callable Try.prog 5 = true ∧ SpecOk Try.prog 5 teqi_sp ∧ ∀ g, teqi_sp.mut_ = some g → MCon Try.prog 5 g := by
  refine ⟨by kernel_rfl, fun R args k r h => ?_, fun g h => by simp [teqi_sp] at h⟩
  unfold teqi_sp at h
  dsimp only at h
  split at h <;> try (cases h; done)
  split at h <;> try (cases h; done)
  rename_i hd
  exact ⟨_, h, teqi_con _ _ (of_decide_eq_true hd)⟩

def envLl : Env := [(4, tawk_tp), (7, tcl_sp), (6, tlen_sp), (8, ulen_sp), (5, teqi_sp)]
theorem envLl_ok : EnvAll Try.prog envLl := ⟨tawk_tpec, tcl_spec, tlen_spec, ulen_spec, teqi_spec, trivial⟩
def lLe_nt : NT := []
noncomputable def lLe_C : Ctx := ⟨Try.prog, ft, tys, envLl, lLe_nt⟩
noncomputable def lLe_t (_k : Nat → Cfg → Option (List RV)) (p : List ((Int × Int))) : Option (List RV) := match !true with | true => some [RV.d .bool false] | false => (match decide ((p.length : Int) > 60) with | true => some [RV.d .bool true] | false => (match decide (p.length ≤ 1000000) with | true => (match decide (lenP p) with | true => (match decide (lenP p) with | true => (match decide ((lenF p).length ≤ 1000000) with | true => some [RV.d .bool (decide ((lenF p) = (lenF p)))] | false => none) | false => none) | false => none) | false => none))
theorem lLe_eq (k : Nat → Cfg → Option (List RV)) (p : List ((Int × Int))) : go Try.prog ft tys envLl lLe_nt k 4000 (start 3 [.d (.sl tG) p]) (.node 0) = lLe_t k p := (go2_eq _ _ _ _ _ _ _ _ _).symm.trans (show go2 Try.prog ft tys envLl lLe_nt k 4000 (start 3 [.d (.sl tG) p]) (.node 0) = lLe_t k p by kernel_rfl)
theorem lLe_s (p : List ((Int × Int))) {rX : List RV} (hX : ∃ nX, lLe_t (lLe_C.k nX) p = some rX) : lLe_C.Res 3 [.d (.sl tG) p] rX := by
  obtain ⟨nX, hX⟩ := hX
  exact ⟨nX, (lLe_eq _ p).trans hX⟩
theorem lLe_con (p : List (Int × Int)) (_ : Ty.ok (.sl tG) p) : Con Try.prog 3 [.d (.sl tG) p] [.d .bool true] := by
  refine Ctx.Res.con (C := lLe_C) (ctx_ok envLl_ok) ?_ (fn := Try.f3) (by kernel_rfl) (by kernel_rfl)
  refine lLe_s _ ⟨0, ?_⟩
  unfold lLe_t
  cases hp : decide ((p.length : Int) > 60) with
  | true => rfl
  | false =>
    have hbp : p.length ≤ 60 := by have := of_decide_eq_false hp; omega
    have hv : lenP p := by show p.length ≤ 1000000; omega
    have hl : (lenF p).length ≤ 1000000 := by
      unfold lenF
      cases goodB p
      · simp
      · simp; omega
    simp only [dT (show p.length ≤ 1000000 by omega), dT hv, dT hl, decide_true, Bool.not_true, bothV_self, dup_eq]
end Go.Proofs.Ytcaiedfkohigjaa

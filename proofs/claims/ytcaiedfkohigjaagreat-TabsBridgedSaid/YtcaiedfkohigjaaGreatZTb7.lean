/- tabs: the reference's Frac, At2; Bridged of both sides. -/
import Derived.Test.YtcaiedfkohigjaaGreatZ15
namespace Go.Proofs.YtcaiedfkohigjaaGreat
open Go.RowKit
def frcP (n d : Int) : Prop := i64P n ∧ i64P d ∧ 0 < d
instance (n d : Int) : Decidable (frcP n d) := by unfold frcP; infer_instance
def at2R (s : Int × Int × Int) : Rat × Rat := (Rat.divInt s.1 (s.2.2 + 1), Rat.divInt s.2.1 (s.2.2 + 1))
def spotP (s : Int × Int × Int) : Prop := -32768 ≤ s.1 ∧ s.1 ≤ 32767 ∧ -32768 ≤ s.2.1 ∧ s.2.1 ≤ 32767 ∧ 0 ≤ s.2.2 ∧ s.2.2 ≤ 255
instance (s : Int × Int × Int) : Decidable (spotP s) := by unfold spotP; infer_instance
noncomputable def qfri_tp : Spec := { keep := false, tame := true, run := fun _ args k => match args with
  | [.d (.int .i64) n] => match decide (i64P n) with
    | true => k [RV.d tI (hid (encI n))]
    | false => none
  | _ => none }
theorem qfri_tpec : callable Tryz.prog 65 = true ∧ SpecOk Tryz.prog 65 qfri_tp ∧ ∀ g, qfri_tp.mut_ = some g → MCon Tryz.prog 65 g := by
  refine ⟨by kernel_rfl, fun R args k r h => ?_, fun g h => by cases h⟩
  unfold qfri_tp at h
  dsimp only at h
  split at h <;> try (cases h; done)
  split at h <;> try (cases h; done)
  rename_i hd
  simp only [hid_eq] at h
  exact ⟨_, h, qfri_con _ (of_decide_eq_true hd)⟩

noncomputable def qof_tp : Spec := { keep := false, tame := true, run := fun _ args k => match args with
  | [.d (.st (.pair .bool (.sl (.int .u32)))) x, .d (.st (.pair .bool (.sl (.int .u32)))) y] => match decide (redP x y) with
    | true => k [RV.d tR (hid (redR x y))]
    | false => none
  | _ => none }
theorem qof_tpec : callable Tryz.prog 71 = true ∧ SpecOk Tryz.prog 71 qof_tp ∧ ∀ g, qof_tp.mut_ = some g → MCon Tryz.prog 71 g := by
  refine ⟨by kernel_rfl, fun R args k r h => ?_, fun g h => by cases h⟩
  unfold qof_tp at h
  dsimp only at h
  split at h <;> try (cases h; done)
  split at h <;> try (cases h; done)
  rename_i hd
  simp only [hid_eq] at h
  exact ⟨_, h, qof_con _ _ (of_decide_eq_true hd)⟩

noncomputable def envTf1 : Env := [(65, qfri_tp), (71, qof_tp)]
theorem envTf1_ok : EnvAll Tryz.prog envTf1 := ⟨qfri_tpec, qof_tpec, trivial⟩
def qfrc_nt : NT := []
noncomputable def qfrc_C : Ctx := ⟨Tryz.prog, ft, tys, envTf1, qfrc_nt⟩
noncomputable def qfrc_t (_k : Nat → Cfg → Option (List RV)) (n : Int) (d : Int) : Option (List RV) := match d == 0 with | true => (match decide (i64P (0 : Int)) with | true => (match decide (i64P (1 : Int)) with | true => (match decide (redP (hid (encI (0 : Int))) (hid (encI (1 : Int)))) with | true => some [RV.d tR (hid (redR (hid (encI (0 : Int))) (hid (encI (1 : Int)))))] | false => none) | false => none) | false => none) | false => (match decide (i64P n) with | true => (match decide (i64P d) with | true => (match decide (redP (hid (encI n)) (hid (encI d))) with | true => some [RV.d tR (hid (redR (hid (encI n)) (hid (encI d))))] | false => none) | false => none) | false => none)
theorem qfrc_eq (k : Nat → Cfg → Option (List RV)) (n : Int) (d : Int) : go Tryz.prog ft tys envTf1 qfrc_nt k 4000 (start 42 [SI n, SI d]) (.node 0) = qfrc_t k n d := (go2_eq _ _ _ _ _ _ _ _ _).symm.trans (show go2 Tryz.prog ft tys envTf1 qfrc_nt k 4000 (start 42 [SI n, SI d]) (.node 0) = qfrc_t k n d by kernel_rfl)
theorem qfrc_s (n : Int) (d : Int) {rX : List RV} (hX : ∃ nX, qfrc_t (qfrc_C.k nX) n d = some rX) : qfrc_C.Res 42 [SI n, SI d] rX := by
  obtain ⟨nX, hX⟩ := hX
  exact ⟨nX, (qfrc_eq _ n d).trans hX⟩
theorem qfrc_con (n : Int) (d : Int) (h : frcP n d) : Con Tryz.prog 42 [.d (.int .i64) n, .d (.int .i64) d] [.d tR (encR (Rat.divInt n d))] := by
  refine Ctx.Res.con (C := qfrc_C) (ctx_ok envTf1_ok) (qfrc_s _ _ ⟨0, ?_⟩) (fn := Tryz.f42) (by kernel_rfl) (by kernel_rfl)
  obtain ⟨hn, hd, h0⟩ := h
  have hne : (d == 0) = false := by simp; omega
  unfold qfrc_t
  rw [hne, dT hn, dT hd]
  simp only [hid_eq]
  rw [dT (show redP (encI n) (encI d) from ⟨okI_enc (by have := szI_64 hn; omega), okI_enc (by have := szI_64 hd; omega), by rw [dec_enc]; omega⟩)]
  unfold redR
  rw [dec_enc, dec_enc]
noncomputable def qfrc_tp : Spec := { keep := false, tame := true, run := fun _ args k => match args with
  | [.d (.int .i64) n, .d (.int .i64) d] => match decide (frcP n d) with
    | true => k [RV.d tR (hid (encR (Rat.divInt n d)))]
    | false => none
  | _ => none }
theorem qfrc_tpec : callable Tryz.prog 42 = true ∧ SpecOk Tryz.prog 42 qfrc_tp ∧ ∀ g, qfrc_tp.mut_ = some g → MCon Tryz.prog 42 g := by
  refine ⟨by kernel_rfl, fun R args k r h => ?_, fun g h => by cases h⟩
  unfold qfrc_tp at h
  dsimp only at h
  split at h <;> try (cases h; done)
  split at h <;> try (cases h; done)
  rename_i hd
  simp only [hid_eq] at h
  exact ⟨_, h, qfrc_con _ _ (of_decide_eq_true hd)⟩

noncomputable def envTf2 : Env := [(65, qfri_tp), (71, qof_tp), (42, qfrc_tp)]
theorem envTf2_ok : EnvAll Tryz.prog envTf2 := ⟨qfri_tpec, qof_tpec, qfrc_tpec, trivial⟩
def uat2_nt : NT := []
noncomputable def uat2_C : Ctx := ⟨Tryz.prog, ft, tys, envTf2, uat2_nt⟩
noncomputable def uat2_t (_k : Nat → Cfg → Option (List RV)) (s : Int × Int × Int) : Option (List RV) := match decide (frcP (IntKind.i64.wrap s.1) (IntKind.i64.wrap ((IntKind.i64.wrap s.2.2) + 1))) with | true => (match decide (frcP (IntKind.i64.wrap s.2.1) (IntKind.i64.wrap ((IntKind.i64.wrap s.2.2) + 1))) with | true => some [RV.d tV (hid (encR (Rat.divInt (IntKind.i64.wrap s.1) (IntKind.i64.wrap ((IntKind.i64.wrap s.2.2) + 1)))), hid (encR (Rat.divInt (IntKind.i64.wrap s.2.1) (IntKind.i64.wrap ((IntKind.i64.wrap s.2.2) + 1)))))] | false => none) | false => none
theorem uat2_eq (k : Nat → Cfg → Option (List RV)) (s : Int × Int × Int) : go Tryz.prog ft tys envTf2 uat2_nt k 4000 (start 15 [.d (.st (.pair (.int .i16) (.pair (.int .i16) (.int .u8)))) s]) (.node 0) = uat2_t k s := (go2_eq _ _ _ _ _ _ _ _ _).symm.trans (show go2 Tryz.prog ft tys envTf2 uat2_nt k 4000 (start 15 [.d (.st (.pair (.int .i16) (.pair (.int .i16) (.int .u8)))) s]) (.node 0) = uat2_t k s by kernel_rfl)
theorem uat2_s (s : Int × Int × Int) {rX : List RV} (hX : ∃ nX, uat2_t (uat2_C.k nX) s = some rX) : uat2_C.Res 15 [.d (.st (.pair (.int .i16) (.pair (.int .i16) (.int .u8)))) s] rX := by
  obtain ⟨nX, hX⟩ := hX
  exact ⟨nX, (uat2_eq _ s).trans hX⟩
theorem uat2_con (s : Int × Int × Int) (h : spotP s) : Con Tryz.prog 15 [.d (.st (.pair (.int .i16) (.pair (.int .i16) (.int .u8)))) s] [.d tV (enc (at2R s))] := by
  refine Ctx.Res.con (C := uat2_C) (ctx_ok envTf2_ok) (uat2_s _ ⟨0, ?_⟩) (fn := Tryz.f15) (by kernel_rfl) (by kernel_rfl)
  obtain ⟨h1, h2, h3, h4, h5, h6⟩ := h
  have e1 : IntKind.i64.wrap s.1 = s.1 := wrap64 (by omega) (by omega)
  have e2 : IntKind.i64.wrap s.2.1 = s.2.1 := wrap64 (by omega) (by omega)
  have e3 : IntKind.i64.wrap s.2.2 = s.2.2 := wrap64 (by omega) (by omega)
  have e4 : IntKind.i64.wrap (s.2.2 + 1) = s.2.2 + 1 := wrap64 (by omega) (by omega)
  unfold uat2_t
  rw [e1, e2, e3, e4, dT (show frcP s.1 (s.2.2 + 1) from ⟨⟨by omega, by omega⟩, ⟨by omega, by omega⟩, by omega⟩), dT (show frcP s.2.1 (s.2.2 + 1) from ⟨⟨by omega, by omega⟩, ⟨by omega, by omega⟩, by omega⟩)]
  simp only [hid_eq]
  rfl
theorem bd_frac {n d : Int} (h1 : i64P n) (h2 : i64P d) (h0 : 0 < d) : Bd (Rat.divInt n d) 3 := by
  obtain ⟨k, rfl⟩ := Int.eq_ofNat_of_zero_le (show 0 ≤ d by omega)
  exact ⟨bdR_mk (by omega) (szI_64 h1) (szI_64 h2)⟩
theorem bd_at2 {s : Int × Int × Int} (h : spotP s) : Bd (at2R s) 6 := by
  obtain ⟨h1, h2, h3, h4, h5, h6⟩ := h
  have b1 := bd_frac (n := s.1) (d := s.2.2 + 1) ⟨by omega, by omega⟩ ⟨by omega, by omega⟩ (by omega)
  have b2 := bd_frac (n := s.2.1) (d := s.2.2 + 1) ⟨by omega, by omega⟩ ⟨by omega, by omega⟩ (by omega)
  exact (inferInstance : Bd (Rat.divInt s.1 (s.2.2 + 1), Rat.divInt s.2.1 (s.2.2 + 1)) (3 + 3))
def hitF (v : Rat × Rat) (r : Int) (t : TB) : Bool := !(farL [t.2.1.1, t.2.1.2, t.2.2.1, t.2.2.2]) && decide (cmpR (segR (vecR t.2.1) (vecR t.2.2) v v) ((r : Rat) * (r : Rat)) ≤ 0)
def briF (l : List TB) (v : Rat × Rat) (r : Int) : Bool := !(decide (r < 0)) && l.any (hitF v r)
def briP (l : List TB) (v : BV) (r : Int) : Prop := l.length ≤ 1000000000 ∧ ok (Rat × Rat) 100 v ∧ i64P r
instance (l : List TB) (v : BV) (r : Int) : Decidable (briP l v r) := by unfold briP; infer_instance
theorem far4 {a b : Int × Int} (h : farL [a.1, a.2, b.1, b.2] = false) : gridP a ∧ gridP b := by
  simp only [farL, List.any_cons, List.any_nil, Bool.or_eq_false_iff] at h
  exact ⟨⟨farI_i64 h.1, farI_i64 h.2.1⟩, farI_i64 h.2.2.1, farI_i64 h.2.2.2.1⟩
noncomputable def envTf3 : Env := [(24, tfar_sp), (27, tvec_tp), (28, rfi_tp), (25, rcm_tp), (39, rmu_tp), (26, dsg_tp), (33, qrfi_tp), (30, qrcm_tp), (43, qrmu_tp), (29, uins_tp), (31, usq_tp)]
theorem envTf3_ok : EnvAll Tryz.prog envTf3 := ⟨tfar_spec, tvec_tpec, rfi_tpec, rcm_tpec, rmu_tpec, dsg_tpec, qrfi_tpec, qrcm_tpec, qrmu_tpec, uins_tpec, usq_tpec, trivial⟩
def tbri_nt : NT := [((70, 6), { keep := [0, 1, 7, 8], hl := 3 }), ((14, 15), { keep := [18], hl := 0 }), ((40, 3), { keep := [7], hl := 0 }), ((70, 18), { keep := [0, 1, 5, 7, 8, 16], hl := 0 })]
noncomputable def tbri_C : Ctx := ⟨Tryz.prog, ft, tys, envTf3, tbri_nt⟩
noncomputable def tbri_h70_6 (l : List (Int × ((Int × Int)) × (Int × Int))) (v : BV) (r : Int) (s70_8 : Int) : Cfg := ⟨70, [.blk 0, .seq 25], [(0, .d (.sl (.st (.pair (.int .i64) (.pair tG tG)))) l), (1, .clo 41 [0, 2]), (7, SI (l.length : Int)), (8, SI s70_8)], [.box 43 [SB v.1.1.1, .d (.sl (.int .u32)) v.1.1.2, SB v.1.2.1, .d (.sl (.int .u32)) v.1.2.2, SB v.2.1.1, .d (.sl (.int .u32)) v.2.1.2, SB v.2.2.1, .d (.sl (.int .u32)) v.2.2.2], .box 41 [SB (((hid (encR (r : Rat))).1).1), .d (.sl (.int .u32)) (((hid (encR (r : Rat))).1).2), SB (((hid (encR (r : Rat))).2).1), .d (.sl (.int .u32)) (((hid (encR (r : Rat))).2).2)], .box 41 [SB (((hid (encR (decR (hid (encR (r : Rat))) * decR (hid (encR (r : Rat)))))).1).1), .d (.sl (.int .u32)) (((hid (encR (decR (hid (encR (r : Rat))) * decR (hid (encR (r : Rat)))))).1).2), SB (((hid (encR (decR (hid (encR (r : Rat))) * decR (hid (encR (r : Rat)))))).2).1), .d (.sl (.int .u32)) (((hid (encR (decR (hid (encR (r : Rat))) * decR (hid (encR (r : Rat)))))).2).2)]], 3, [⟨40, [.seq 4], 3, 2, [], 3, none⟩, ⟨14, [.seq 16], 15, 2, [], 0, none⟩]⟩
noncomputable def tbri_t (k : Nat → Cfg → Option (List RV)) (l : List (Int × ((Int × Int)) × (Int × Int))) (v : BV) (r : Int) : Option (List RV) := match decide (r < 0) with | true => some [RV.d .bool false] | false => (match decide (i64P r) with | true => (match decide (okR (hid (encR (r : Rat))) ∧ okR (hid (encR (r : Rat)))) with | true => k 6 (tbri_h70_6 l v r 0) | false => none) | false => none)
theorem tbri_eq (k : Nat → Cfg → Option (List RV)) (l : List (Int × ((Int × Int)) × (Int × Int))) (v : BV) (r : Int) : go Tryz.prog ft tys envTf3 tbri_nt k 4000 (start 14 [.d (.sl (.st (.pair (.int .i64) (.pair tG tG)))) l, .d tV v, SI r]) (.node 0) = tbri_t k l v r := (go2_eq _ _ _ _ _ _ _ _ _).symm.trans (show go2 Tryz.prog ft tys envTf3 tbri_nt k 4000 (start 14 [.d (.sl (.st (.pair (.int .i64) (.pair tG tG)))) l, .d tV v, SI r]) (.node 0) = tbri_t k l v r by kernel_rfl)
theorem tbri_s (l : List (Int × ((Int × Int)) × (Int × Int))) (v : BV) (r : Int) {rX : List RV} (hX : ∃ nX, tbri_t (tbri_C.k nX) l v r = some rX) : tbri_C.Res 14 [.d (.sl (.st (.pair (.int .i64) (.pair tG tG)))) l, .d tV v, SI r] rX := by
  obtain ⟨nX, hX⟩ := hX
  exact ⟨nX, (tbri_eq _ l v r).trans hX⟩
noncomputable def tbri_h70_6_t (k : Nat → Cfg → Option (List RV)) (l : List (Int × ((Int × Int)) × (Int × Int))) (v : BV) (r : Int) (s70_8 : Int) : Option (List RV) := match decide (s70_8 < (l.length : Int)) with | true => (match getI l s70_8 with | some x1 => (match decide (farP ([x1.2.1.1, x1.2.1.2, x1.2.2.1, x1.2.2.2])) with | true => (match !(farL ([x1.2.1.1, x1.2.1.2, x1.2.2.1, x1.2.2.2])) with | true => (match decide (gridP x1.2.1) with | true => (match decide (gridP x1.2.2) with | true => (match decide (ok (Rat × Rat) 100 (hid (enc (vecR x1.2.1))) ∧ ok (Rat × Rat) 100 (hid (enc (vecR x1.2.2))) ∧ ok (Rat × Rat) 100 v ∧ ok (Rat × Rat) 100 v) with | true => (match decide (okR (hid (encR (segR (dec (hid (enc (vecR x1.2.1)))) (dec (hid (enc (vecR x1.2.2)))) (dec v) (dec v)))) ∧ okR (hid (encR (decR (hid (encR (r : Rat))) * decR (hid (encR (r : Rat))))))) with | true => (match decide ((cmpR (decR (hid (encR (segR (dec (hid (enc (vecR x1.2.1)))) (dec (hid (enc (vecR x1.2.2)))) (dec v) (dec v))))) (decR (hid (encR (decR (hid (encR (r : Rat))) * decR (hid (encR (r : Rat)))))))) ≤ 0) with | true => some [RV.d .bool (decide (s70_8 ≥ 0))] | false => k 6 (tbri_h70_6 l v r (IntKind.i64.wrap (s70_8 + 1)))) | false => none) | false => none) | false => none) | false => none) | false => k 6 (tbri_h70_6 l v r (IntKind.i64.wrap (s70_8 + 1)))) | false => none) | none => none) | false => some [RV.d .bool (decide ((-1) ≥ 0))]
theorem tbri_h70_6_eq (k : Nat → Cfg → Option (List RV)) (l : List (Int × ((Int × Int)) × (Int × Int))) (v : BV) (r : Int) (s70_8 : Int) : go Tryz.prog ft tys envTf3 tbri_nt k 4000 { tbri_h70_6 l v r s70_8 with K := .lp 6 :: (tbri_h70_6 l v r s70_8).K } (.node 7) = tbri_h70_6_t k l v r s70_8 := (go2_eq _ _ _ _ _ _ _ _ _).symm.trans (show go2 Tryz.prog ft tys envTf3 tbri_nt k 4000 { tbri_h70_6 l v r s70_8 with K := .lp 6 :: (tbri_h70_6 l v r s70_8).K } (.node 7) = tbri_h70_6_t k l v r s70_8 by kernel_rfl)
theorem tbri_h70_6_s (l : List (Int × ((Int × Int)) × (Int × Int))) (v : BV) (r : Int) (s70_8 : Int) {rX : List RV} (hX : ∃ nX, tbri_h70_6_t (tbri_C.k nX) l v r s70_8 = some rX) : tbri_C.Runs 6 (tbri_h70_6 l v r s70_8) rX := by
  obtain ⟨nX, hX⟩ := hX
  exact ⟨nX + 1, (tbri_h70_6_eq _ l v r s70_8).trans hX⟩
def ubri_nt : NT := [((16, 16), { keep := [0, 4, 7, 8], hl := 2 })]
noncomputable def ubri_C : Ctx := ⟨Tryz.prog, ft, tys, envTf3, ubri_nt⟩
noncomputable def ubri_h16 (l : List (Int × ((Int × Int)) × (Int × Int))) (v : BV) (r : Int) (s8 : Int) : Cfg := ⟨16, [.blk 0, .seq 33], [(0, .d (.sl (.st (.pair (.int .i64) (.pair tG tG)))) l), (4, .box 0 0), (7, .box 1 0), (8, SI s8)], [.box 43 [SB v.1.1.1, .d (.sl (.int .u32)) v.1.1.2, SB v.1.2.1, .d (.sl (.int .u32)) v.1.2.2, SB v.2.1.1, .d (.sl (.int .u32)) v.2.1.2, SB v.2.2.1, .d (.sl (.int .u32)) v.2.2.2], .box 41 [SB (((hid (encR (r : Rat))).1).1), .d (.sl (.int .u32)) (((hid (encR (r : Rat))).1).2), SB (((hid (encR (r : Rat))).2).1), .d (.sl (.int .u32)) (((hid (encR (r : Rat))).2).2)]], 0, []⟩
noncomputable def ubri_t (k : Nat → Cfg → Option (List RV)) (l : List (Int × ((Int × Int)) × (Int × Int))) (v : BV) (r : Int) : Option (List RV) := match decide (r < 0) with | true => some [RV.d .bool false] | false => (match decide (i64P r) with | true => k 16 (ubri_h16 l v r 0) | false => none)
theorem ubri_eq (k : Nat → Cfg → Option (List RV)) (l : List (Int × ((Int × Int)) × (Int × Int))) (v : BV) (r : Int) : go Tryz.prog ft tys envTf3 ubri_nt k 4000 (start 16 [.d (.sl (.st (.pair (.int .i64) (.pair tG tG)))) l, .d tV v, SI r]) (.node 0) = ubri_t k l v r := (go2_eq _ _ _ _ _ _ _ _ _).symm.trans (show go2 Tryz.prog ft tys envTf3 ubri_nt k 4000 (start 16 [.d (.sl (.st (.pair (.int .i64) (.pair tG tG)))) l, .d tV v, SI r]) (.node 0) = ubri_t k l v r by kernel_rfl)
theorem ubri_s (l : List (Int × ((Int × Int)) × (Int × Int))) (v : BV) (r : Int) {rX : List RV} (hX : ∃ nX, ubri_t (ubri_C.k nX) l v r = some rX) : ubri_C.Res 16 [.d (.sl (.st (.pair (.int .i64) (.pair tG tG)))) l, .d tV v, SI r] rX := by
  obtain ⟨nX, hX⟩ := hX
  exact ⟨nX, (ubri_eq _ l v r).trans hX⟩
noncomputable def ubri_h16_t (k : Nat → Cfg → Option (List RV)) (l : List (Int × ((Int × Int)) × (Int × Int))) (v : BV) (r : Int) (s8 : Int) : Option (List RV) := match decide (s8 < (l.length : Int)) with | true => (match getI l s8 with | some x1 => (match insB x1.2.1 with | true => (match getI l s8 with | some x2 => (match insB x2.2.2 with | true => (match getI l s8 with | some x3 => (match getI l s8 with | some x4 => (match decide (gridP x3.2.1 ∧ gridP x4.2.2 ∧ ok (Rat × Rat) 100 v) with | true => (match decide (okR (hid (encR (r : Rat))) ∧ okR (hid (encR (r : Rat)))) with | true => (match decide (okR (hid (encR (segR (vecR x3.2.1) (vecR x4.2.2) (dec v) (dec v)))) ∧ okR (hid (encR (decR (hid (encR (r : Rat))) * decR (hid (encR (r : Rat))))))) with | true => (match decide ((cmpR (decR (hid (encR (segR (vecR x3.2.1) (vecR x4.2.2) (dec v) (dec v))))) (decR (hid (encR (decR (hid (encR (r : Rat))) * decR (hid (encR (r : Rat)))))))) ≤ 0) with | true => some [RV.d .bool true] | false => k 16 (ubri_h16 l v r (IntKind.i64.wrap (s8 + 1)))) | false => none) | false => none) | false => none) | none => none) | none => none) | false => k 16 (ubri_h16 l v r (IntKind.i64.wrap (s8 + 1)))) | none => none) | false => k 16 (ubri_h16 l v r (IntKind.i64.wrap (s8 + 1)))) | none => none) | false => some [RV.d .bool false]
theorem ubri_h16_eq (k : Nat → Cfg → Option (List RV)) (l : List (Int × ((Int × Int)) × (Int × Int))) (v : BV) (r : Int) (s8 : Int) : go Tryz.prog ft tys envTf3 ubri_nt k 4000 { ubri_h16 l v r s8 with K := .lp 16 :: (ubri_h16 l v r s8).K } (.node 17) = ubri_h16_t k l v r s8 := (go2_eq _ _ _ _ _ _ _ _ _).symm.trans (show go2 Tryz.prog ft tys envTf3 ubri_nt k 4000 { ubri_h16 l v r s8 with K := .lp 16 :: (ubri_h16 l v r s8).K } (.node 17) = ubri_h16_t k l v r s8 by kernel_rfl)
theorem ubri_h16_s (l : List (Int × ((Int × Int)) × (Int × Int))) (v : BV) (r : Int) (s8 : Int) {rX : List RV} (hX : ∃ nX, ubri_h16_t (ubri_C.k nX) l v r s8 = some rX) : ubri_C.Runs 16 (ubri_h16 l v r s8) rX := by
  obtain ⟨nX, hX⟩ := hX
  exact ⟨nX + 1, (ubri_h16_eq _ l v r s8).trans hX⟩
theorem tbri_loop (l : List TB) (v : Rat × Rat) (r : Int) (hl : l.length ≤ 1000000000) [bv : Bd v 100] (hr : i64P r) : ∀ (j i : Nat), i + j = l.length → tbri_C.Runs 6 (tbri_h70_6 l (enc v) r (i : Int)) [.d .bool ((l.drop i).any (hitF v r))] := by
  have b1 := bd_int64 hr
  intro j
  induction j with
  | zero =>
    intro i hi
    refine tbri_h70_6_s _ _ _ _ ⟨0, ?_⟩
    unfold tbri_h70_6_t
    rw [ge_dec (by omega), drop_end (by omega)]
    rfl
  | succ j ih =>
    intro i hi
    have hil : i < l.length := by omega
    obtain ⟨q, hq⟩ := ih (i + 1) (by omega)
    refine tbri_h70_6_s _ _ _ _ ⟨q, ?_⟩
    unfold tbri_h70_6_t
    rw [lt_dec hil, getI_nat, List.getElem?_eq_getElem hil, drop_get hil, List.any_cons, wrapS (by omega)]
    dsimp only
    rw [dT (show farP [l[i].2.1.1, l[i].2.1.2, l[i].2.2.1, l[i].2.2.2] by show 4 ≤ 1000000000; decide)]
    unfold hitF
    cases hf : farL [l[i].2.1.1, l[i].2.1.2, l[i].2.2.1, l[i].2.2.2] with
    | true => exact hq
    | false =>
      obtain ⟨g1, g2⟩ := far4 hf
      have b2 := bd_vec g1
      have b3 := bd_vec g2
      simp only [okd_grid g1, okd_grid g2, hid_eq, dec_enc', dec_encR, okd, okd_R, Bool.decide_and, Bool.and_self, Bool.true_and, Nat.reduceAdd, Nat.reduceMul, Nat.reduceLeDiff, Bool.not_false]
      cases decide (cmpR (segR (vecR l[i].2.1) (vecR l[i].2.2) v v) ((r : Rat) * (r : Rat)) ≤ 0)
      · exact hq
      · rw [dT (show (i : Int) ≥ 0 by omega)]
        rfl
theorem tbri_con (l : List (Int × ((Int × Int)) × (Int × Int))) (v : BV) (r : Int) (h : briP l v r) : Con Tryz.prog 14 [.d (.sl (.st (.pair (.int .i64) (.pair tG tG)))) l, .d tV v, .d (.int .i64) r] [.d .bool (briF l (dec v) r)] := by
  refine Ctx.Res.con (C := tbri_C) (ctx_ok envTf3_ok) ?_ (fn := Tryz.f14) (by kernel_rfl) (by kernel_rfl)
  obtain ⟨hl, hv, hr⟩ := h
  obtain ⟨v, rfl, bv⟩ := ok_ex hv
  have b1 := bd_int64 hr
  obtain ⟨q, hq⟩ := tbri_loop l v r hl hr l.length 0 (by omega)
  refine tbri_s _ _ _ ⟨q, ?_⟩
  unfold tbri_t briF
  rw [dec_enc']
  cases hn : decide (r < 0)
  · simp only [dT hr, hid_eq, okd_R, Bool.decide_and, Bool.and_self, Nat.reduceLeDiff]
    exact hq
  · rfl
theorem ins2 (a b : Int × Int) : farL [a.1, a.2, b.1, b.2] = !(insB a && insB b) := by
  unfold insB farL
  simp only [List.any_cons, List.any_nil, Bool.or_false]
  cases farI a.1 <;> cases farI a.2 <;> cases farI b.1 <;> cases farI b.2 <;> rfl
theorem ubri_loop (l : List TB) (v : Rat × Rat) (r : Int) (hl : l.length ≤ 1000000000) [bv : Bd v 100] (hr : i64P r) : ∀ (j i : Nat), i + j = l.length → ubri_C.Runs 16 (ubri_h16 l (enc v) r (i : Int)) [.d .bool ((l.drop i).any (hitF v r))] := by
  have b1 := bd_int64 hr
  intro j
  induction j with
  | zero =>
    intro i hi
    refine ubri_h16_s _ _ _ _ ⟨0, ?_⟩
    unfold ubri_h16_t
    rw [ge_dec (by omega), drop_end (by omega)]
    rfl
  | succ j ih =>
    intro i hi
    have hil : i < l.length := by omega
    obtain ⟨q, hq⟩ := ih (i + 1) (by omega)
    refine ubri_h16_s _ _ _ _ ⟨q, ?_⟩
    unfold ubri_h16_t
    rw [lt_dec hil, getI_nat, List.getElem?_eq_getElem hil, drop_get hil, List.any_cons, wrapS (by omega)]
    dsimp only
    unfold hitF
    have hins := ins2 l[i].2.1 l[i].2.2
    cases ha : insB l[i].2.1 with
    | false =>
      rw [ha] at hins
      rw [show farL [l[i].2.1.1, l[i].2.1.2, l[i].2.2.1, l[i].2.2.2] = true from hins]
      exact hq
    | true =>
      rw [ha] at hins
      dsimp only
      cases hb : insB l[i].2.2 with
      | false =>
        rw [hb] at hins
        rw [show farL [l[i].2.1.1, l[i].2.1.2, l[i].2.2.1, l[i].2.2.2] = true from hins]
        exact hq
      | true =>
        rw [hb] at hins
        have hf : farL [l[i].2.1.1, l[i].2.1.2, l[i].2.2.1, l[i].2.2.2] = false := hins
        obtain ⟨g1, g2⟩ := far4 hf
        have b2 := bd_vec g1
        have b3 := bd_vec g2
        rw [hf]
        simp only [okd_grid g1, okd_grid g2, hid_eq, dec_enc', dec_encR, okd, okd_R, Bool.decide_and, Bool.and_self, Bool.true_and, Nat.reduceAdd, Nat.reduceMul, Nat.reduceLeDiff, Bool.not_false]
        cases decide (cmpR (segR (vecR l[i].2.1) (vecR l[i].2.2) v v) ((r : Rat) * (r : Rat)) ≤ 0)
        · exact hq
        · rfl
theorem ubri_con (l : List (Int × ((Int × Int)) × (Int × Int))) (v : BV) (r : Int) (h : briP l v r) : Con Tryz.prog 16 [.d (.sl (.st (.pair (.int .i64) (.pair tG tG)))) l, .d tV v, .d (.int .i64) r] [.d .bool (briF l (dec v) r)] := by
  refine Ctx.Res.con (C := ubri_C) (ctx_ok envTf3_ok) ?_ (fn := Tryz.f16) (by kernel_rfl) (by kernel_rfl)
  obtain ⟨hl, hv, hr⟩ := h
  obtain ⟨v, rfl, bv⟩ := ok_ex hv
  obtain ⟨q, hq⟩ := ubri_loop l v r hl hr l.length 0 (by omega)
  refine ubri_s _ _ _ ⟨q, ?_⟩
  unfold ubri_t briF
  rw [dec_enc']
  cases hn : decide (r < 0)
  · rw [dT hr]
    exact hq
  · rfl
end Go.Proofs.YtcaiedfkohigjaaGreat

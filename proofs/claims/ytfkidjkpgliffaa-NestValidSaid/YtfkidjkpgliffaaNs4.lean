/- nest.Fits, nest.spot and the reference's. -/
import Derived.Test.YtfkidjkpgliffaaNs3
namespace Go.Proofs.Ytfkidjkpgliffaa
open Go.RowKit
def clp_nt : NT := []
noncomputable def clp_C : Ctx := ⟨Try.prog, ft, tys, [], clp_nt⟩
noncomputable def clp_t (_k : Nat → Cfg → Option (List RV)) (p : List (Int × Int × Int × Bool)) : Option (List RV) := match p with | [] => both (some [RV.new 52 (.st (.pair (.int .i64) (.pair (.int .i64) (.pair (.int .i64) .bool)))) []]) (match decide ((([] : List (Int × Int × Int × Bool)).length + p.length) * 32 ≤ 140737488355328 ∧ ([] : List (Int × Int × Int × Bool)).length + p.length ≤ 140737488355328) with | true => some [RV.new 52 (.st (.pair (.int .i64) (.pair (.int .i64) (.pair (.int .i64) .bool)))) (([] : List (Int × Int × Int × Bool)) ++ p)] | false => none) | _ :: _ => (match decide ((([] : List (Int × Int × Int × Bool)).length + p.length) * 32 ≤ 140737488355328 ∧ ([] : List (Int × Int × Int × Bool)).length + p.length ≤ 140737488355328) with | true => some [RV.new 52 (.st (.pair (.int .i64) (.pair (.int .i64) (.pair (.int .i64) .bool)))) (([] : List (Int × Int × Int × Bool)) ++ p)] | false => none)
theorem clp_eq (k : Nat → Cfg → Option (List RV)) (p : List (Int × Int × Int × Bool)) : go Try.prog ft tys [] clp_nt k 4000 (start 66 [.d (.sl (.st (.pair (.int .i64) (.pair (.int .i64) (.pair (.int .i64) .bool))))) p]) (.node 0) = clp_t k p := by kernel_rfl
theorem clp_s (p : List (Int × Int × Int × Bool)) {rX : List RV} (hX : ∃ nX, clp_t (clp_C.k nX) p = some rX) : clp_C.Res 66 [.d (.sl (.st (.pair (.int .i64) (.pair (.int .i64) (.pair (.int .i64) .bool))))) p] rX := by
  obtain ⟨nX, hX⟩ := hX
  exact ⟨nX, (clp_eq _ p).trans hX⟩
theorem clp_con (p : List Pl) (hp : vP p) : Con Try.prog 66 [.d (.sl (.st (.pair (.int .i64) (.pair (.int .i64) (.pair (.int .i64) .bool))))) p] [.new 52 (.st (.pair (.int .i64) (.pair (.int .i64) (.pair (.int .i64) .bool)))) p] := by
  refine Ctx.Res.con (C := clp_C) (ctx_ok (E := []) trivial) ?_ (fn := Try.f66) (by kernel_rfl) (by kernel_rfl)
  refine clp_s _ ⟨0, ?_⟩
  unfold vP at hp
  unfold clp_t
  rw [decide_eq_true (by simp; omega)]
  cases p with
  | nil => exact both_self _
  | cons x p => rfl
def fitsF (w h gap : Int) (l : List It) (p : List Pl) (x : Pl) : Bool := validF w h gap l p && validF w h gap l (p ++ [x])
def fP (p : List Pl) : Prop := p.length ≤ 800
instance (p : List Pl) : Decidable (fP p) := by unfold fP; infer_instance
theorem fP.v {p : List Pl} (h : fP p) : vP p := by unfold fP at h; unfold vP; omega
theorem fP.s {p : List Pl} (h : fP p) (x : Pl) : vP (p ++ [x]) := by unfold fP at h; unfold vP; simp; omega
def clp_sp : Spec := { keep := true, run := fun _ args k => match args with
  | [.d (.sl (.st (.pair (.int .i64) (.pair (.int .i64) (.pair (.int .i64) .bool))))) p] => match decide (vP p) with
    | true => k [RV.new 52 (.st (.pair (.int .i64) (.pair (.int .i64) (.pair (.int .i64) .bool)))) p]
    | false => none
  | _ => none }
theorem clp_spec : callable Try.prog 66 = true ∧ SpecOk Try.prog 66 clp_sp ∧ ∀ g, clp_sp.mut_ = some g → MCon Try.prog 66 g := by
  refine ⟨by kernel_rfl, fun R args k r h => ?_, fun g h => by simp [clp_sp] at h⟩
  unfold clp_sp at h
  dsimp only at h
  split at h <;> try (cases h; done)
  split at h <;> try (cases h; done)
  rename_i hd
  exact ⟨_, h, clp_con _ (of_decide_eq_true hd)⟩
def env5 : Env := [(66, clp_sp), (26, cva_sp), (27, rva_sp)]
theorem env5_ok : EnvAll Try.prog env5 := ⟨clp_spec, cva_spec, rva_spec, trivial⟩
def cfi_nt : NT := []
noncomputable def cfi_C : Ctx := ⟨Try.prog, ft, tys, env5, cfi_nt⟩
noncomputable def cfi_t (_k : Nat → Cfg → Option (List RV)) (w : Int) (h : Int) (gap : Int) (l : List (Int × Int)) (p : List (Int × Int × Int × Bool)) (x : Int × Int × Int × Bool) : Option (List RV) := match decide (vP p) with | true => (match validF w h gap l p with | true => dup (.b .l (.b .l .l)) (match decide (vP p) with | true => (match decide ((p.length + ([(x.1, (x.2.1, (x.2.2.1, x.2.2.2)))]).length) * 32 ≤ 140737488355328 ∧ p.length + ([(x.1, (x.2.1, (x.2.2.1, x.2.2.2)))]).length ≤ 140737488355328) with | true => (match decide (vP (p ++ ([(x.1, (x.2.1, (x.2.2.1, x.2.2.2)))]))) with | true => some [RV.d .bool (validF w h gap l (p ++ ([(x.1, (x.2.1, (x.2.2.1, x.2.2.2)))])))] | false => none) | false => none) | false => none) | false => dup (.b .l (.b .l .l)) (some [RV.d .bool false])) | false => none
theorem cfi_eq (k : Nat → Cfg → Option (List RV)) (w : Int) (h : Int) (gap : Int) (l : List (Int × Int)) (p : List (Int × Int × Int × Bool)) (x : Int × Int × Int × Bool) : go Try.prog ft tys env5 cfi_nt k 4000 (start 28 [SI w, SI h, SI gap, .d (.sl (.st (.pair (.int .i64) (.int .i64)))) l, .d (.sl (.st (.pair (.int .i64) (.pair (.int .i64) (.pair (.int .i64) .bool))))) p, .d (.st (.pair (.int .i64) (.pair (.int .i64) (.pair (.int .i64) .bool)))) x]) (.node 0) = cfi_t k w h gap l p x := by kernel_rfl
theorem cfi_s (w : Int) (h : Int) (gap : Int) (l : List (Int × Int)) (p : List (Int × Int × Int × Bool)) (x : Int × Int × Int × Bool) {rX : List RV} (hX : ∃ nX, cfi_t (cfi_C.k nX) w h gap l p x = some rX) : cfi_C.Res 28 [SI w, SI h, SI gap, .d (.sl (.st (.pair (.int .i64) (.int .i64)))) l, .d (.sl (.st (.pair (.int .i64) (.pair (.int .i64) (.pair (.int .i64) .bool))))) p, .d (.st (.pair (.int .i64) (.pair (.int .i64) (.pair (.int .i64) .bool)))) x] rX := by
  obtain ⟨nX, hX⟩ := hX
  exact ⟨nX, (cfi_eq _ w h gap l p x).trans hX⟩
def rfi_nt : NT := []
noncomputable def rfi_C : Ctx := ⟨Try.prog, ft, tys, env5, rfi_nt⟩
noncomputable def rfi_t (_k : Nat → Cfg → Option (List RV)) (w : Int) (h : Int) (gap : Int) (l : List (Int × Int)) (p : List (Int × Int × Int × Bool)) (x : Int × Int × Int × Bool) : Option (List RV) := match decide (vP p) with | true => (match validF w h gap l p with | true => dup (.b (.b .l (.b .l .l)) (.b (.b .l .l) .l)) (match decide ((([] : List (Int × Int × Int × Bool)).length + p.length) * 32 ≤ 140737488355328 ∧ ([] : List (Int × Int × Int × Bool)).length + p.length ≤ 140737488355328) with | true => (match decide (((([] : List (Int × Int × Int × Bool)) ++ p).length + ([(x.1, (x.2.1, (x.2.2.1, x.2.2.2)))]).length) * 32 ≤ 140737488355328 ∧ (([] : List (Int × Int × Int × Bool)) ++ p).length + ([(x.1, (x.2.1, (x.2.2.1, x.2.2.2)))]).length ≤ 140737488355328) with | true => (match decide (vP ((([] : List (Int × Int × Int × Bool)) ++ p) ++ ([(x.1, (x.2.1, (x.2.2.1, x.2.2.2)))]))) with | true => some [RV.d .bool (validF w h gap l ((([] : List (Int × Int × Int × Bool)) ++ p) ++ ([(x.1, (x.2.1, (x.2.2.1, x.2.2.2)))])))] | false => none) | false => none) | false => none) | false => dup (.b (.b .l (.b .l .l)) (.b (.b .l .l) .l)) (some [RV.d .bool false])) | false => none
theorem rfi_eq (k : Nat → Cfg → Option (List RV)) (w : Int) (h : Int) (gap : Int) (l : List (Int × Int)) (p : List (Int × Int × Int × Bool)) (x : Int × Int × Int × Bool) : go Try.prog ft tys env5 rfi_nt k 4000 (start 29 [SI w, SI h, SI gap, .d (.sl (.st (.pair (.int .i64) (.int .i64)))) l, .d (.sl (.st (.pair (.int .i64) (.pair (.int .i64) (.pair (.int .i64) .bool))))) p, .d (.st (.pair (.int .i64) (.pair (.int .i64) (.pair (.int .i64) .bool)))) x]) (.node 0) = rfi_t k w h gap l p x := by kernel_rfl
theorem rfi_s (w : Int) (h : Int) (gap : Int) (l : List (Int × Int)) (p : List (Int × Int × Int × Bool)) (x : Int × Int × Int × Bool) {rX : List RV} (hX : ∃ nX, rfi_t (rfi_C.k nX) w h gap l p x = some rX) : rfi_C.Res 29 [SI w, SI h, SI gap, .d (.sl (.st (.pair (.int .i64) (.int .i64)))) l, .d (.sl (.st (.pair (.int .i64) (.pair (.int .i64) (.pair (.int .i64) .bool))))) p, .d (.st (.pair (.int .i64) (.pair (.int .i64) (.pair (.int .i64) .bool)))) x] rX := by
  obtain ⟨nX, hX⟩ := hX
  exact ⟨nX, (rfi_eq _ w h gap l p x).trans hX⟩
theorem cfi_con (w h gap : Int) (l : List It) (p : List Pl) (x : Pl) (hp : fP p) : Con Try.prog 28 [SI w, SI h, SI gap, .d (.sl (.st (.pair (.int .i64) (.int .i64)))) l, .d (.sl (.st (.pair (.int .i64) (.pair (.int .i64) (.pair (.int .i64) .bool))))) p, .d (.st (.pair (.int .i64) (.pair (.int .i64) (.pair (.int .i64) .bool)))) x] [.d .bool (fitsF w h gap l p x)] := by
  refine Ctx.Res.con (C := cfi_C) (ctx_ok env5_ok) ?_ (fn := Try.f28) (by kernel_rfl) (by kernel_rfl)
  refine cfi_s _ _ _ _ _ _ ⟨0, ?_⟩
  unfold cfi_t fitsF
  have h1 := hp
  unfold fP at h1
  rw [eta4, decide_eq_true hp.v]
  dsimp only
  cases validF w h gap l p with
  | false => simp only [dup_eq]; rfl
  | true =>
    simp only [dup_eq]
    rw [decide_eq_true (hp.s x), decide_eq_true (by simp; omega)]
    rfl
theorem rfi_con (w h gap : Int) (l : List It) (p : List Pl) (x : Pl) (hp : fP p) : Con Try.prog 29 [SI w, SI h, SI gap, .d (.sl (.st (.pair (.int .i64) (.int .i64)))) l, .d (.sl (.st (.pair (.int .i64) (.pair (.int .i64) (.pair (.int .i64) .bool))))) p, .d (.st (.pair (.int .i64) (.pair (.int .i64) (.pair (.int .i64) .bool)))) x] [.d .bool (fitsF w h gap l p x)] := by
  refine Ctx.Res.con (C := rfi_C) (ctx_ok env5_ok) ?_ (fn := Try.f29) (by kernel_rfl) (by kernel_rfl)
  refine rfi_s _ _ _ _ _ _ ⟨0, ?_⟩
  unfold rfi_t fitsF
  have h1 := hp
  unfold fP at h1
  rw [eta4, decide_eq_true hp.v]
  simp only [dup_eq, List.nil_append]
  cases validF w h gap l p with
  | false => rfl
  | true =>
    rw [decide_eq_true (hp.s x), decide_eq_true (by simp; omega), decide_eq_true (by simp; omega)]
    rfl
/-- A further place. -/
theorem okL_snoc (w h gap : Int) (l : List It) (x : Pl) : ∀ (p pre : List Pl), okL w h gap l pre (p ++ [x]) = (okL w h gap l pre p && okAt w h gap l (pre ++ p) x)
  | [], pre => by simp [okL]
  | y :: p, pre => by
    rw [List.cons_append, okL, okL_snoc w h gap l x p, okL, Bool.and_assoc, List.append_assoc]
    rfl
theorem valid_snoc (w h gap : Int) (l : List It) (p : List Pl) (x : Pl) : validF w h gap l (p ++ [x]) = (validF w h gap l p && okAt w h gap l p x) := by
  unfold validF
  rw [okL_snoc, Bool.and_assoc, List.nil_append]
def goodS (w h gap : Int) (l : List It) (p : List Pl) (x : Pl) : Bool := onF w h gap l x && p.all (apF gap l x)
def stP (w h gap : Int) (l : List It) (p : List Pl) (item : Int) : Prop := validF w h gap l p = true ∧ fP p ∧ (0 ≤ item ∧ item < (l.length : Int)) ∧ (p.all fun y => !(item == y.1)) = true
instance (w h gap : Int) (l : List It) (p : List Pl) (item : Int) : Decidable (stP w h gap l p item) := by unfold stP; infer_instance
theorem fits_good {w h gap : Int} {l : List It} {p : List Pl} {item : Int} (hs : stP w h gap l p item) (x y : Int) (t : Bool) : fitsF w h gap l p (item, x, y, t) = goodS w h gap l p (item, x, y, t) := by
  obtain ⟨hv, _, hi, ha⟩ := hs
  unfold fitsF goodS
  rw [valid_snoc, hv, Bool.true_and, Bool.true_and]
  unfold okAt
  rw [decide_eq_true (show 0 ≤ ((item, x, y, t) : Pl).1 from hi.1), decide_eq_true (show ((item, x, y, t) : Pl).1 < (l.length : Int) from hi.2), Bool.true_and, Bool.true_and]
  congr 1
  have : ∀ q : List Pl, (q.all fun y => !(item == y.1)) = true → q.all (twoF gap l (item, x, y, t)) = q.all (apF gap l (item, x, y, t)) := by
    intro q
    induction q with
    | nil => intro _; rfl
    | cons z q ih =>
      intro hq
      rw [List.all_cons, Bool.and_eq_true] at hq
      rw [List.all_cons, List.all_cons, ih hq.2]
      unfold twoF
      rw [hq.1, Bool.true_and]
  exact this p ha
def candF (item : Int) (at_ : List It) : List Pl := at_.flatMap fun a => [(item, a.1, a.2, false), (item, a.1, a.2, true)]
def firstF (w h gap : Int) (l : List It) (p : List Pl) (item : Int) (at_ : List It) : Pl × Bool := match (candF item at_).find? (goodS w h gap l p) with
  | some x => (x, true)
  | none => ((0, 0, 0, false), false)
def spotF (w h gap : Int) (l : List It) (p : List Pl) (item : Int) : Pl × Bool := firstF w h gap l p item (spotsF w h gap l p)
theorem first_cons (w h gap : Int) (l : List It) (p : List Pl) (item : Int) (a : It) (r : List It) : firstF w h gap l p item (a :: r) = bif goodS w h gap l p (item, a.1, a.2, false) then ((item, a.1, a.2, false), true) else bif goodS w h gap l p (item, a.1, a.2, true) then ((item, a.1, a.2, true), true) else firstF w h gap l p item r := by
  unfold firstF candF
  rw [List.flatMap_cons]
  simp only [List.cons_append, List.nil_append, List.find?_cons]
  cases goodS w h gap l p (item, a.1, a.2, false) <;> cases goodS w h gap l p (item, a.1, a.2, true) <;> rfl
theorem spots_in {w h gap : Int} {l : List It} {p : List Pl} (hp : fP p) : (spotsF w h gap l p).length ≤ 1000000 := by
  unfold fP at hp
  unfold spotsF
  cases validF w h gap l p with
  | false => simp
  | true =>
    rw [cond_true, grid_len]
    have h1 := xs_len gap l p
    have h2 := ys_len gap l p
    have : (ysF gap l p).length * (xsF gap l p).length ≤ 801 * 801 := Nat.mul_le_mul (by omega) (by omega)
    omega
def csp_sp : Spec := { keep := false, run := fun _ args k => match args with
  | [.d (.int .i64) w, .d (.int .i64) h, .d (.int .i64) gap, .d (.sl (.st (.pair (.int .i64) (.int .i64)))) l, .d (.sl (.st (.pair (.int .i64) (.pair (.int .i64) (.pair (.int .i64) .bool))))) p] => match decide (vP p) with
    | true => k [RV.d (.sl (.st (.pair (.int .i64) (.int .i64)))) (spotsF w h gap l p)]
    | false => none
  | _ => none }
theorem csp_spec : callable Try.prog 23 = true ∧ SpecOk Try.prog 23 csp_sp ∧ ∀ g, csp_sp.mut_ = some g → MCon Try.prog 23 g := by
  refine ⟨by kernel_rfl, fun R args k r h => ?_, fun g h => by simp [csp_sp] at h⟩
  unfold csp_sp at h
  dsimp only at h
  split at h <;> try (cases h; done)
  split at h <;> try (cases h; done)
  rename_i hd
  exact ⟨_, h, csp_con _ _ _ _ _ (of_decide_eq_true hd)⟩
def rsp_sp : Spec := { keep := false, run := fun _ args k => match args with
  | [.d (.int .i64) w, .d (.int .i64) h, .d (.int .i64) gap, .d (.sl (.st (.pair (.int .i64) (.int .i64)))) l, .d (.sl (.st (.pair (.int .i64) (.pair (.int .i64) (.pair (.int .i64) .bool))))) p] => match decide (vP p) with
    | true => k [RV.d (.sl (.st (.pair (.int .i64) (.int .i64)))) (spotsF w h gap l p)]
    | false => none
  | _ => none }
theorem rsp_spec : callable Try.prog 25 = true ∧ SpecOk Try.prog 25 rsp_sp ∧ ∀ g, rsp_sp.mut_ = some g → MCon Try.prog 25 g := by
  refine ⟨by kernel_rfl, fun R args k r h => ?_, fun g h => by simp [rsp_sp] at h⟩
  unfold rsp_sp at h
  dsimp only at h
  split at h <;> try (cases h; done)
  split at h <;> try (cases h; done)
  rename_i hd
  exact ⟨_, h, rsp_con _ _ _ _ _ (of_decide_eq_true hd)⟩
def rfi_sp : Spec := { keep := true, run := fun _ args k => match args with
  | [.d (.int .i64) w, .d (.int .i64) h, .d (.int .i64) gap, .d (.sl (.st (.pair (.int .i64) (.int .i64)))) l, .d (.sl (.st (.pair (.int .i64) (.pair (.int .i64) (.pair (.int .i64) .bool))))) p, .d (.st (.pair (.int .i64) (.pair (.int .i64) (.pair (.int .i64) .bool)))) x] => match decide (fP p) with
    | true => k [RV.d .bool (fitsF w h gap l p x)]
    | false => none
  | _ => none }
theorem rfi_spec : callable Try.prog 29 = true ∧ SpecOk Try.prog 29 rfi_sp ∧ ∀ g, rfi_sp.mut_ = some g → MCon Try.prog 29 g := by
  refine ⟨by kernel_rfl, fun R args k r h => ?_, fun g h => by simp [rfi_sp] at h⟩
  unfold rfi_sp at h
  dsimp only at h
  split at h <;> try (cases h; done)
  split at h <;> try (cases h; done)
  rename_i hd
  exact ⟨_, h, rfi_con _ _ _ _ _ _ (of_decide_eq_true hd)⟩
def env6 : Env := [(63, con_sp), (64, cap_sp), (23, csp_sp), (25, rsp_sp), (29, rfi_sp)]
theorem env6_ok : EnvAll Try.prog env6 := ⟨con_spec, cap_spec, csp_spec, rsp_spec, rfi_spec, trivial⟩
def cst_nt : NT := [((56, 6), { keep := [0, 1, 4, 5, 8, 9, 12, 24, 25, 26], hl := 3 }), ((56, 20), { keep := [0, 1, 4, 5, 8, 9, 12, 15, 24, 25, 26, 30, 31, 32], hl := 5 }), ((68, 6), { keep := [0, 1, 7, 8], hl := 6 })]
noncomputable def cst_C : Ctx := ⟨Try.prog, ft, tys, env6, cst_nt⟩
def cst_h6 (w : Int) (h : Int) (gap : Int) (l : List (Int × Int)) (p : List (Int × Int × Int × Bool)) (item : Int) (s26 : Int) : Cfg := ⟨56, [.blk 0, .seq 42], [(0, SI w), (1, SI h), (4, .d (.sl (.st (.pair (.int .i64) (.pair (.int .i64) (.pair (.int .i64) .bool))))) p), (5, SI item), (8, .box 0 0), (9, .box 1 0), (12, .box 2 0), (24, .d (.sl (.st (.pair (.int .i64) (.int .i64)))) (spotsF w h gap l p)), (25, SI ((spotsF w h gap l p).length : Int)), (26, SI s26)], [.box 2 [SI gap], .box 33 [.d (.sl (.st (.pair (.int .i64) (.int .i64)))) l], .box 52 [SI 0, SI 0, SI 0, SB false]], 0, []⟩
def cst_h20 (w : Int) (h : Int) (gap : Int) (l : List (Int × Int)) (p : List (Int × Int × Int × Bool)) (item : Int) (s26 : Int) (x1 : Int × Int) (s32 : Int) : Cfg := ⟨56, [.blk 2, .blk 1, .seq 41, .lp 6, .blk 0, .seq 42], [(0, SI w), (1, SI h), (4, .d (.sl (.st (.pair (.int .i64) (.pair (.int .i64) (.pair (.int .i64) .bool))))) p), (5, SI item), (8, .box 0 0), (9, .box 1 0), (12, .box 2 0), (15, .box 3 0), (24, .d (.sl (.st (.pair (.int .i64) (.int .i64)))) (spotsF w h gap l p)), (25, SI ((spotsF w h gap l p).length : Int)), (26, SI s26), (30, .own 4), (31, SI (([false, true]).length : Int)), (32, SI s32)], [.box 2 [SI gap], .box 33 [.d (.sl (.st (.pair (.int .i64) (.int .i64)))) l], .box 52 [SI 0, SI 0, SI 0, SB false], .box 45 [SI x1.1, SI x1.2], .row 4 .bool ([false, true])], 0, []⟩
def cst_h68_6 (w : Int) (h : Int) (gap : Int) (l : List (Int × Int)) (p : List (Int × Int × Int × Bool)) (item : Int) (s26 : Int) (x1 : Int × Int) (s32 : Int) (x2 : Bool) (s68_8 : Int) : Cfg := ⟨68, [.blk 0, .seq 25], [(0, .d (.sl (.st (.pair (.int .i64) (.pair (.int .i64) (.pair (.int .i64) .bool))))) p), (1, .clo 86 [0, 1, 5]), (7, SI (p.length : Int)), (8, SI s68_8)], [.box 2 [SI gap], .box 33 [.d (.sl (.st (.pair (.int .i64) (.int .i64)))) l], .box 52 [SI 0, SI 0, SI 0, SB false], .box 45 [SI x1.1, SI x1.2], .row 4 .bool ([false, true]), .box 52 [SI item, SI x1.1, SI x1.2, SB x2]], 6, [⟨31, [.seq 4], 3, 2, [(6, .clo 86 [0, 1, 5]), (5, .d (.sl (.st (.pair (.int .i64) (.pair (.int .i64) (.pair (.int .i64) .bool))))) p), (4, SB false), (0, .d (.sl (.st (.pair (.int .i64) (.pair (.int .i64) (.pair (.int .i64) .bool))))) p), (1, .clo 86 [0, 1, 5])], 6⟩, ⟨56, [.seq 35, .blk 3, .seq 40, .lp 20, .blk 2, .blk 1, .seq 41, .lp 6, .blk 0, .seq 42], 34, 9, [(49, SB true), (51, .clo 86 [0, 1, 5]), (50, .d (.sl (.st (.pair (.int .i64) (.pair (.int .i64) (.pair (.int .i64) .bool))))) p), (48, SB (onF w h gap l (item, (x1.1, (x1.2, x2))))), (47, .d (.st (.pair (.int .i64) (.pair (.int .i64) (.pair (.int .i64) .bool)))) (item, (x1.1, (x1.2, x2)))), (46, .d (.sl (.st (.pair (.int .i64) (.int .i64)))) l), (45, SI gap), (44, SI h), (43, SI w), (18, .box 5 0), (42, .d (.st (.pair (.int .i64) (.pair (.int .i64) (.pair (.int .i64) .bool)))) (item, (x1.1, (x1.2, x2)))), (41, SB x2), (40, SI x1.2), (39, .box 3 1), (38, SI x1.1), (37, .box 3 0), (36, SI item), (17, SB x2), (35, SB x2), (34, .oelt 4 1 ((s32).toNat) 0), (33, SB (decide (s32 < (([false, true]).length : Int)))), (0, SI w), (1, SI h), (4, .d (.sl (.st (.pair (.int .i64) (.pair (.int .i64) (.pair (.int .i64) .bool))))) p), (5, SI item), (8, .box 0 0), (9, .box 1 0), (12, .box 2 0), (15, .box 3 0), (24, .d (.sl (.st (.pair (.int .i64) (.int .i64)))) (spotsF w h gap l p)), (25, SI ((spotsF w h gap l p).length : Int)), (26, SI s26), (30, .own 4), (31, SI (([false, true]).length : Int)), (32, SI s32)], 0⟩]⟩
def cst_t (k : Nat → Cfg → Option (List RV)) (w : Int) (h : Int) (gap : Int) (l : List (Int × Int)) (p : List (Int × Int × Int × Bool)) (item : Int) : Option (List RV) := match decide (vP p) with | true => k 6 (cst_h6 w h gap l p item 0) | false => none
theorem cst_eq (k : Nat → Cfg → Option (List RV)) (w : Int) (h : Int) (gap : Int) (l : List (Int × Int)) (p : List (Int × Int × Int × Bool)) (item : Int) : go Try.prog ft tys env6 cst_nt k 4000 (start 56 [SI w, SI h, SI gap, .d (.sl (.st (.pair (.int .i64) (.int .i64)))) l, .d (.sl (.st (.pair (.int .i64) (.pair (.int .i64) (.pair (.int .i64) .bool))))) p, SI item]) (.node 0) = cst_t k w h gap l p item := by kernel_rfl
theorem cst_s (w : Int) (h : Int) (gap : Int) (l : List (Int × Int)) (p : List (Int × Int × Int × Bool)) (item : Int) {rX : List RV} (hX : ∃ nX, cst_t (cst_C.k nX) w h gap l p item = some rX) : cst_C.Res 56 [SI w, SI h, SI gap, .d (.sl (.st (.pair (.int .i64) (.int .i64)))) l, .d (.sl (.st (.pair (.int .i64) (.pair (.int .i64) (.pair (.int .i64) .bool))))) p, SI item] rX := by
  obtain ⟨nX, hX⟩ := hX
  exact ⟨nX, (cst_eq _ w h gap l p item).trans hX⟩
def cst_h6_t (k : Nat → Cfg → Option (List RV)) (w : Int) (h : Int) (gap : Int) (l : List (Int × Int)) (p : List (Int × Int × Int × Bool)) (item : Int) (s26 : Int) : Option (List RV) := match decide (s26 < ((spotsF w h gap l p).length : Int)) with | true => (match getI (spotsF w h gap l p) s26 with | some x1 => k 20 (cst_h20 w h gap l p item s26 x1 0) | none => none) | false => some [RV.d (.st (.pair (.int .i64) (.pair (.int .i64) (.pair (.int .i64) .bool)))) (0, (0, (0, false))), RV.d .bool false]
theorem cst_h6_eq (k : Nat → Cfg → Option (List RV)) (w : Int) (h : Int) (gap : Int) (l : List (Int × Int)) (p : List (Int × Int × Int × Bool)) (item : Int) (s26 : Int) : go Try.prog ft tys env6 cst_nt k 4000 { cst_h6 w h gap l p item s26 with K := .lp 6 :: (cst_h6 w h gap l p item s26).K } (.node 7) = cst_h6_t k w h gap l p item s26 := by kernel_rfl
theorem cst_h6_s (w : Int) (h : Int) (gap : Int) (l : List (Int × Int)) (p : List (Int × Int × Int × Bool)) (item : Int) (s26 : Int) {rX : List RV} (hX : ∃ nX, cst_h6_t (cst_C.k nX) w h gap l p item s26 = some rX) : cst_C.Runs 6 (cst_h6 w h gap l p item s26) rX := by
  obtain ⟨nX, hX⟩ := hX
  exact ⟨nX + 1, (cst_h6_eq _ w h gap l p item s26).trans hX⟩
def cst_h20_t (k : Nat → Cfg → Option (List RV)) (w : Int) (h : Int) (gap : Int) (l : List (Int × Int)) (p : List (Int × Int × Int × Bool)) (item : Int) (s26 : Int) (x1 : Int × Int) (s32 : Int) : Option (List RV) := match decide (s32 < (([false, true]).length : Int)) with | true => (match getI ([false, true]) s32 with | some _ => (match true, ([false, true])[(s32).toNat]? with | true, some x2 => (match decide (onP w h gap l (item, (x1.1, (x1.2, x2)))) with | true => (match onF w h gap l (item, (x1.1, (x1.2, x2))) with | true => k 6 (cst_h68_6 w h gap l p item s26 x1 s32 x2 0) | false => k 20 (cst_h20 w h gap l p item s26 x1 (IntKind.i64.wrap (s32 + 1)))) | false => none) | _, _ => none) | none => none) | false => k 6 (cst_h6 w h gap l p item (IntKind.i64.wrap (s26 + 1)))
theorem cst_h20_eq (k : Nat → Cfg → Option (List RV)) (w : Int) (h : Int) (gap : Int) (l : List (Int × Int)) (p : List (Int × Int × Int × Bool)) (item : Int) (s26 : Int) (x1 : Int × Int) (s32 : Int) : go Try.prog ft tys env6 cst_nt k 4000 { cst_h20 w h gap l p item s26 x1 s32 with K := .lp 20 :: (cst_h20 w h gap l p item s26 x1 s32).K } (.node 21) = cst_h20_t k w h gap l p item s26 x1 s32 := by kernel_rfl
theorem cst_h20_s (w : Int) (h : Int) (gap : Int) (l : List (Int × Int)) (p : List (Int × Int × Int × Bool)) (item : Int) (s26 : Int) (x1 : Int × Int) (s32 : Int) {rX : List RV} (hX : ∃ nX, cst_h20_t (cst_C.k nX) w h gap l p item s26 x1 s32 = some rX) : cst_C.Runs 20 (cst_h20 w h gap l p item s26 x1 s32) rX := by
  obtain ⟨nX, hX⟩ := hX
  exact ⟨nX + 1, (cst_h20_eq _ w h gap l p item s26 x1 s32).trans hX⟩
def cst_h68_6_t (k : Nat → Cfg → Option (List RV)) (w : Int) (h : Int) (gap : Int) (l : List (Int × Int)) (p : List (Int × Int × Int × Bool)) (item : Int) (s26 : Int) (x1 : Int × Int) (s32 : Int) (x2 : Bool) (s68_8 : Int) : Option (List RV) := match decide (s68_8 < (p.length : Int)) with | true => (match getI p s68_8 with | some x3 => (match decide (apP gap l (item, (x1.1, (x1.2, x2))) (x3.1, (x3.2.1, (x3.2.2.1, x3.2.2.2)))) with | true => (match !(apF gap l (item, (x1.1, (x1.2, x2))) (x3.1, (x3.2.1, (x3.2.2.1, x3.2.2.2)))) with | true => (match !(decide (s68_8 ≥ 0)) with | true => some [RV.d (.st (.pair (.int .i64) (.pair (.int .i64) (.pair (.int .i64) .bool)))) (item, (x1.1, (x1.2, x2))), RV.d .bool true] | false => k 20 (cst_h20 w h gap l p item s26 x1 (IntKind.i64.wrap (s32 + 1)))) | false => k 6 (cst_h68_6 w h gap l p item s26 x1 s32 x2 (IntKind.i64.wrap (s68_8 + 1)))) | false => none) | none => none) | false => (match !(decide ((-1) ≥ 0)) with | true => some [RV.d (.st (.pair (.int .i64) (.pair (.int .i64) (.pair (.int .i64) .bool)))) (item, (x1.1, (x1.2, x2))), RV.d .bool true] | false => k 20 (cst_h20 w h gap l p item s26 x1 (IntKind.i64.wrap (s32 + 1))))
theorem cst_h68_6_eq (k : Nat → Cfg → Option (List RV)) (w : Int) (h : Int) (gap : Int) (l : List (Int × Int)) (p : List (Int × Int × Int × Bool)) (item : Int) (s26 : Int) (x1 : Int × Int) (s32 : Int) (x2 : Bool) (s68_8 : Int) : go Try.prog ft tys env6 cst_nt k 4000 { cst_h68_6 w h gap l p item s26 x1 s32 x2 s68_8 with K := .lp 6 :: (cst_h68_6 w h gap l p item s26 x1 s32 x2 s68_8).K } (.node 7) = cst_h68_6_t k w h gap l p item s26 x1 s32 x2 s68_8 := by kernel_rfl
theorem cst_h68_6_s (w : Int) (h : Int) (gap : Int) (l : List (Int × Int)) (p : List (Int × Int × Int × Bool)) (item : Int) (s26 : Int) (x1 : Int × Int) (s32 : Int) (x2 : Bool) (s68_8 : Int) {rX : List RV} (hX : ∃ nX, cst_h68_6_t (cst_C.k nX) w h gap l p item s26 x1 s32 x2 s68_8 = some rX) : cst_C.Runs 6 (cst_h68_6 w h gap l p item s26 x1 s32 x2 s68_8) rX := by
  obtain ⟨nX, hX⟩ := hX
  exact ⟨nX + 1, (cst_h68_6_eq _ w h gap l p item s26 x1 s32 x2 s68_8).trans hX⟩
def rst_nt : NT := [((57, 8), { keep := [0, 1, 2, 3, 4, 5, 12, 14, 15], hl := 1 }), ((57, 20), { keep := [0, 1, 2, 3, 4, 5, 12, 14, 15, 16], hl := 1 })]
noncomputable def rst_C : Ctx := ⟨Try.prog, ft, tys, env6, rst_nt⟩
def rst_h8 (w : Int) (h : Int) (gap : Int) (l : List (Int × Int)) (p : List (Int × Int × Int × Bool)) (item : Int) (s15 : Int) : Cfg := ⟨57, [.blk 0, .seq 40], [(0, SI w), (1, SI h), (2, SI gap), (3, .d (.sl (.st (.pair (.int .i64) (.int .i64)))) l), (4, .d (.sl (.st (.pair (.int .i64) (.pair (.int .i64) (.pair (.int .i64) .bool))))) p), (5, SI item), (12, .box 0 0), (14, .d (.sl (.st (.pair (.int .i64) (.int .i64)))) (spotsF w h gap l p)), (15, SI s15)], [.box 39 [SI 0, SI 0, SI 0, SB false]], 0, []⟩
def rst_h20 (w : Int) (h : Int) (gap : Int) (l : List (Int × Int)) (p : List (Int × Int × Int × Bool)) (item : Int) (s15 : Int) (s16 : Int) : Cfg := ⟨57, [.blk 2, .blk 1, .seq 39, .lp 8, .blk 0, .seq 40], [(0, SI w), (1, SI h), (2, SI gap), (3, .d (.sl (.st (.pair (.int .i64) (.int .i64)))) l), (4, .d (.sl (.st (.pair (.int .i64) (.pair (.int .i64) (.pair (.int .i64) .bool))))) p), (5, SI item), (12, .box 0 0), (14, .d (.sl (.st (.pair (.int .i64) (.int .i64)))) (spotsF w h gap l p)), (15, SI s15), (16, SI s16)], [.box 39 [SI 0, SI 0, SI 0, SB false]], 0, []⟩
def rst_t (k : Nat → Cfg → Option (List RV)) (w : Int) (h : Int) (gap : Int) (l : List (Int × Int)) (p : List (Int × Int × Int × Bool)) (item : Int) : Option (List RV) := match decide (vP p) with | true => k 8 (rst_h8 w h gap l p item 0) | false => none
theorem rst_eq (k : Nat → Cfg → Option (List RV)) (w : Int) (h : Int) (gap : Int) (l : List (Int × Int)) (p : List (Int × Int × Int × Bool)) (item : Int) : go Try.prog ft tys env6 rst_nt k 4000 (start 57 [SI w, SI h, SI gap, .d (.sl (.st (.pair (.int .i64) (.int .i64)))) l, .d (.sl (.st (.pair (.int .i64) (.pair (.int .i64) (.pair (.int .i64) .bool))))) p, SI item]) (.node 0) = rst_t k w h gap l p item := by kernel_rfl
theorem rst_s (w : Int) (h : Int) (gap : Int) (l : List (Int × Int)) (p : List (Int × Int × Int × Bool)) (item : Int) {rX : List RV} (hX : ∃ nX, rst_t (rst_C.k nX) w h gap l p item = some rX) : rst_C.Res 57 [SI w, SI h, SI gap, .d (.sl (.st (.pair (.int .i64) (.int .i64)))) l, .d (.sl (.st (.pair (.int .i64) (.pair (.int .i64) (.pair (.int .i64) .bool))))) p, SI item] rX := by
  obtain ⟨nX, hX⟩ := hX
  exact ⟨nX, (rst_eq _ w h gap l p item).trans hX⟩
def rst_h8_t (k : Nat → Cfg → Option (List RV)) (w : Int) (h : Int) (gap : Int) (l : List (Int × Int)) (p : List (Int × Int × Int × Bool)) (item : Int) (s15 : Int) : Option (List RV) := match decide (s15 < ((spotsF w h gap l p).length : Int)) with | true => k 20 (rst_h20 w h gap l p item s15 0) | false => some [RV.d (.st (.pair (.int .i64) (.pair (.int .i64) (.pair (.int .i64) .bool)))) (0, (0, (0, false))), RV.d .bool false]
theorem rst_h8_eq (k : Nat → Cfg → Option (List RV)) (w : Int) (h : Int) (gap : Int) (l : List (Int × Int)) (p : List (Int × Int × Int × Bool)) (item : Int) (s15 : Int) : go Try.prog ft tys env6 rst_nt k 4000 { rst_h8 w h gap l p item s15 with K := .lp 8 :: (rst_h8 w h gap l p item s15).K } (.node 9) = rst_h8_t k w h gap l p item s15 := by kernel_rfl
theorem rst_h8_s (w : Int) (h : Int) (gap : Int) (l : List (Int × Int)) (p : List (Int × Int × Int × Bool)) (item : Int) (s15 : Int) {rX : List RV} (hX : ∃ nX, rst_h8_t (rst_C.k nX) w h gap l p item s15 = some rX) : rst_C.Runs 8 (rst_h8 w h gap l p item s15) rX := by
  obtain ⟨nX, hX⟩ := hX
  exact ⟨nX + 1, (rst_h8_eq _ w h gap l p item s15).trans hX⟩
def rst_h20_t (k : Nat → Cfg → Option (List RV)) (w : Int) (h : Int) (gap : Int) (l : List (Int × Int)) (p : List (Int × Int × Int × Bool)) (item : Int) (s15 : Int) (s16 : Int) : Option (List RV) := match decide (s16 < 2) with | true => (match getI (spotsF w h gap l p) s15 with | some x1 => (match getI (spotsF w h gap l p) s15 with | some x2 => (match decide (fP p) with | true => (match fitsF w h gap l p (item, (x1.1, (x2.2, s16 == 1))) with | true => some [RV.d (.st (.pair (.int .i64) (.pair (.int .i64) (.pair (.int .i64) .bool)))) (item, (x1.1, (x2.2, s16 == 1))), RV.d .bool true] | false => k 20 (rst_h20 w h gap l p item s15 (IntKind.i64.wrap (s16 + 1)))) | false => none) | none => none) | none => none) | false => k 8 (rst_h8 w h gap l p item (IntKind.i64.wrap (s15 + 1)))
theorem rst_h20_eq (k : Nat → Cfg → Option (List RV)) (w : Int) (h : Int) (gap : Int) (l : List (Int × Int)) (p : List (Int × Int × Int × Bool)) (item : Int) (s15 : Int) (s16 : Int) : go Try.prog ft tys env6 rst_nt k 4000 { rst_h20 w h gap l p item s15 s16 with K := .lp 20 :: (rst_h20 w h gap l p item s15 s16).K } (.node 21) = rst_h20_t k w h gap l p item s15 s16 := by kernel_rfl
theorem rst_h20_s (w : Int) (h : Int) (gap : Int) (l : List (Int × Int)) (p : List (Int × Int × Int × Bool)) (item : Int) (s15 : Int) (s16 : Int) {rX : List RV} (hX : ∃ nX, rst_h20_t (rst_C.k nX) w h gap l p item s15 s16 = some rX) : rst_C.Runs 20 (rst_h20 w h gap l p item s15 s16) rX := by
  obtain ⟨nX, hX⟩ := hX
  exact ⟨nX + 1, (rst_h20_eq _ w h gap l p item s15 s16).trans hX⟩
def stR (s : Pl × Bool) : List RV := [.d (.st (.pair (.int .i64) (.pair (.int .i64) (.pair (.int .i64) .bool)))) s.1, .d .bool s.2]
theorem rst_inner {w h gap : Int} {l : List It} {p : List Pl} {item : Int} (hs : stP w h gap l p item) (k : Nat) (hk : k < (spotsF w h gap l p).length)
    (hout : rst_C.Runs 8 (rst_h8 w h gap l p item ((k + 1 : Nat) : Int)) (stR (firstF w h gap l p item ((spotsF w h gap l p).drop (k + 1))))) : rst_C.Runs 20 (rst_h20 w h gap l p item (k : Int) 0) (stR (firstF w h gap l p item ((spotsF w h gap l p).drop k))) := by
  have hb := spots_in (w := w) (h := h) (gap := gap) (l := l) hs.2.1
  have last : rst_C.Runs 20 (rst_h20 w h gap l p item (k : Int) 2) (stR (firstF w h gap l p item ((spotsF w h gap l p).drop (k + 1)))) := by
    refine rst_h20_s _ _ _ _ _ _ _ _ ?_
    unfold rst_h20_t
    rw [decide_eq_false (show ¬ (2 : Int) < 2 by decide)]
    dsimp only
    rw [wrapS (by omega)]
    exact hout
  rw [drop_get hk, first_cons]
  have second : goodS w h gap l p (item, (spotsF w h gap l p)[k].1, (spotsF w h gap l p)[k].2, false) = false → rst_C.Runs 20 (rst_h20 w h gap l p item (k : Int) 1) (stR (bif goodS w h gap l p (item, (spotsF w h gap l p)[k].1, (spotsF w h gap l p)[k].2, true) then ((item, (spotsF w h gap l p)[k].1, (spotsF w h gap l p)[k].2, true), true) else firstF w h gap l p item ((spotsF w h gap l p).drop (k + 1)))) := by
    intro _
    refine rst_h20_s _ _ _ _ _ _ _ _ ?_
    unfold rst_h20_t
    simp only [getI_nat, List.getElem?_eq_getElem hk, decide_eq_true (show (1 : Int) < 2 by decide), decide_eq_true hs.2.1]
    rw [show ((1 : Int) == 1) = true from rfl, fits_good hs]
    cases goodS w h gap l p (item, (spotsF w h gap l p)[k].1, (spotsF w h gap l p)[k].2, true) with
    | true => exact ⟨0, rfl⟩
    | false => exact last
  refine rst_h20_s _ _ _ _ _ _ _ _ ?_
  unfold rst_h20_t
  simp only [getI_nat, List.getElem?_eq_getElem hk, decide_eq_true (show (0 : Int) < 2 by decide), decide_eq_true hs.2.1]
  rw [show ((0 : Int) == 1) = false from rfl, fits_good hs]
  cases hg : goodS w h gap l p (item, (spotsF w h gap l p)[k].1, (spotsF w h gap l p)[k].2, false) with
  | true => exact ⟨0, rfl⟩
  | false => exact second hg
theorem rst_loop {w h gap : Int} {l : List It} {p : List Pl} {item : Int} (hs : stP w h gap l p item) : ∀ d k, (spotsF w h gap l p).length - k = d → k ≤ (spotsF w h gap l p).length → rst_C.Runs 8 (rst_h8 w h gap l p item (k : Int)) (stR (firstF w h gap l p item ((spotsF w h gap l p).drop k))) := by
  intro d
  induction d with
  | zero =>
    intro k hd hk
    refine rst_h8_s _ _ _ _ _ _ _ ⟨0, ?_⟩
    unfold rst_h8_t
    rw [ge_dec (by omega), drop_end (by omega)]
    rfl
  | succ d ih =>
    intro k hd hk
    have hlt : k < (spotsF w h gap l p).length := by omega
    refine rst_h8_s _ _ _ _ _ _ _ ?_
    unfold rst_h8_t
    rw [lt_dec hlt]
    exact rst_inner hs k hlt (ih (k + 1) (by omega) (by omega))
theorem rst_con (w h gap : Int) (l : List It) (p : List Pl) (item : Int) (hs : stP w h gap l p item) : Con Try.prog 57 [SI w, SI h, SI gap, .d (.sl (.st (.pair (.int .i64) (.int .i64)))) l, .d (.sl (.st (.pair (.int .i64) (.pair (.int .i64) (.pair (.int .i64) .bool))))) p, SI item] [.d (.st (.pair (.int .i64) (.pair (.int .i64) (.pair (.int .i64) .bool)))) (spotF w h gap l p item).1, .d .bool (spotF w h gap l p item).2] := by
  refine Ctx.Res.con (C := rst_C) (ctx_ok env6_ok) ?_ (fn := Try.f57) (by kernel_rfl) (by kernel_rfl)
  refine rst_s _ _ _ _ _ _ ?_
  unfold rst_t
  rw [decide_eq_true hs.2.1.v]
  exact rst_loop hs _ 0 rfl (Nat.zero_le _)
theorem cst_scan {w h gap : Int} {l : List It} {p : List Pl} {item : Int} (hs : stP w h gap l p item) (a : Adm w h gap l) (hin : ∀ y ∈ p, plIn l y) (k : Nat) (x1 : It) (s : Nat) (t : Bool) (hx : plIn l (item, x1.1, x1.2, t)) (r : Pl × Bool)
    (hnext : cst_C.Runs 20 (cst_h20 w h gap l p item (k : Int) x1 ((s + 1 : Nat) : Int)) (stR r)) (hsb : s ≤ 5) : ∀ d j, p.length - j = d → j ≤ p.length → cst_C.Runs 6 (cst_h68_6 w h gap l p item (k : Int) x1 (s : Int) t (j : Int)) (stR (bif (p.drop j).all (apF gap l (item, x1.1, x1.2, t)) then ((item, x1.1, x1.2, t), true) else r)) := by
  have hp := hs.2.1
  unfold fP at hp
  intro d
  induction d with
  | zero =>
    intro j hd hj
    refine cst_h68_6_s _ _ _ _ _ _ _ _ _ _ _ ⟨0, ?_⟩
    unfold cst_h68_6_t
    rw [ge_dec (by omega), drop_end (by omega)]
    rfl
  | succ d ih =>
    intro j hd hj
    have hlt : j < p.length := by omega
    have hn := ih (j + 1) (by omega) (by omega)
    have hy := hin _ (List.getElem_mem hlt)
    refine cst_h68_6_s _ _ _ _ _ _ _ _ _ _ _ ?_
    unfold cst_h68_6_t
    rw [lt_dec hlt, getI_nat, List.getElem?_eq_getElem hlt, drop_get hlt, List.all_cons]
    generalize p[j] = y at hy ⊢
    dsimp only
    rw [eta4, decide_eq_true (show apP gap l (item, x1.1, x1.2, t) y from ⟨⟨a.g1, a.g2⟩, a.l, hx, hy⟩), decide_eq_true (show (j : Int) ≥ 0 by omega), wrapS (by omega), wrapS (by omega)]
    cases apF gap l (item, x1.1, x1.2, t) y with
    | true => exact hn
    | false => exact hnext
theorem cst_inner {w h gap : Int} {l : List It} {p : List Pl} {item : Int} (hs : stP w h gap l p item) (k : Nat) (hk : k < (spotsF w h gap l p).length)
    (hout : cst_C.Runs 6 (cst_h6 w h gap l p item ((k + 1 : Nat) : Int)) (stR (firstF w h gap l p item ((spotsF w h gap l p).drop (k + 1))))) : cst_C.Runs 20 (cst_h20 w h gap l p item (k : Int) (spotsF w h gap l p)[k] 0) (stR (firstF w h gap l p item ((spotsF w h gap l p).drop k))) := by
  have hb := spots_in (w := w) (h := h) (gap := gap) (l := l) hs.2.1
  obtain ⟨a, hin⟩ := valid_in hs.1
  have ha : admF w h gap l = true := by have := hs.1; unfold validF at this; rw [Bool.and_eq_true] at this; exact this.1
  have hsz : ∀ (x y : Int) (t : Bool), sizeP l (item, x, y, t) := fun x y t => hs.2.2.1
  rw [drop_get hk, first_cons]
  generalize (spotsF w h gap l p)[k] = x1
  have last : cst_C.Runs 20 (cst_h20 w h gap l p item (k : Int) x1 ((2 : Nat) : Int)) (stR (firstF w h gap l p item ((spotsF w h gap l p).drop (k + 1)))) := by
    refine cst_h20_s _ _ _ _ _ _ _ _ _ ?_
    unfold cst_h20_t
    rw [show decide (((2 : Nat) : Int) < (([false, true] : List Bool).length : Int)) = false from rfl]
    dsimp only
    rw [wrapS (by omega)]
    exact hout
  have second : cst_C.Runs 20 (cst_h20 w h gap l p item (k : Int) x1 ((1 : Nat) : Int)) (stR (bif goodS w h gap l p (item, x1.1, x1.2, true) then ((item, x1.1, x1.2, true), true) else firstF w h gap l p item ((spotsF w h gap l p).drop (k + 1)))) := by
    refine cst_h20_s _ _ _ _ _ _ _ _ _ ?_
    unfold cst_h20_t
    rw [show decide (((1 : Nat) : Int) < (([false, true] : List Bool).length : Int)) = true from rfl, show getI ([false, true] : List Bool) ((1 : Nat) : Int) = some true from rfl, show ([false, true] : List Bool)[(((1 : Nat) : Int)).toNat]? = some true from rfl]
    dsimp only
    rw [decide_eq_true (show onP w h gap l (item, x1.1, x1.2, true) from ⟨ha, hsz _ _ _⟩)]
    unfold goodS
    cases ho : onF w h gap l (item, x1.1, x1.2, true) with
    | false => exact last
    | true => exact cst_scan hs a hin k x1 1 true (on_in a (hsz _ _ _) ho) _ last (by omega) _ 0 rfl (Nat.zero_le _)
  refine cst_h20_s _ _ _ _ _ _ _ _ _ ?_
  unfold cst_h20_t
  rw [show decide ((0 : Int) < (([false, true] : List Bool).length : Int)) = true from rfl, show getI ([false, true] : List Bool) (0 : Int) = some false from rfl, show ([false, true] : List Bool)[((0 : Int)).toNat]? = some false from rfl]
  dsimp only
  rw [decide_eq_true (show onP w h gap l (item, x1.1, x1.2, false) from ⟨ha, hsz _ _ _⟩)]
  unfold goodS
  unfold goodS at second
  cases ho : onF w h gap l (item, x1.1, x1.2, false) with
  | false => exact second
  | true => exact cst_scan hs a hin k x1 0 false (on_in a (hsz _ _ _) ho) _ second (by omega) _ 0 rfl (Nat.zero_le _)
theorem cst_loop {w h gap : Int} {l : List It} {p : List Pl} {item : Int} (hs : stP w h gap l p item) : ∀ d k, (spotsF w h gap l p).length - k = d → k ≤ (spotsF w h gap l p).length → cst_C.Runs 6 (cst_h6 w h gap l p item (k : Int)) (stR (firstF w h gap l p item ((spotsF w h gap l p).drop k))) := by
  intro d
  induction d with
  | zero =>
    intro k hd hk
    refine cst_h6_s _ _ _ _ _ _ _ ⟨0, ?_⟩
    unfold cst_h6_t
    rw [ge_dec (by omega), drop_end (by omega)]
    rfl
  | succ d ih =>
    intro k hd hk
    have hlt : k < (spotsF w h gap l p).length := by omega
    refine cst_h6_s _ _ _ _ _ _ _ ?_
    unfold cst_h6_t
    rw [lt_dec hlt, getI_nat, List.getElem?_eq_getElem hlt]
    exact cst_inner hs k hlt (ih (k + 1) (by omega) (by omega))
theorem cst_con (w h gap : Int) (l : List It) (p : List Pl) (item : Int) (hs : stP w h gap l p item) : Con Try.prog 56 [SI w, SI h, SI gap, .d (.sl (.st (.pair (.int .i64) (.int .i64)))) l, .d (.sl (.st (.pair (.int .i64) (.pair (.int .i64) (.pair (.int .i64) .bool))))) p, SI item] [.d (.st (.pair (.int .i64) (.pair (.int .i64) (.pair (.int .i64) .bool)))) (spotF w h gap l p item).1, .d .bool (spotF w h gap l p item).2] := by
  refine Ctx.Res.con (C := cst_C) (ctx_ok env6_ok) ?_ (fn := Try.f56) (by kernel_rfl) (by kernel_rfl)
  refine cst_s _ _ _ _ _ _ ?_
  unfold cst_t
  rw [decide_eq_true hs.2.1.v]
  exact cst_loop hs _ 0 rfl (Nat.zero_le _)
end Go.Proofs.Ytfkidjkpgliffaa

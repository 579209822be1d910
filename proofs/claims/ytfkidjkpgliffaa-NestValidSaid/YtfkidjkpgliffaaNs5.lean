/- nest.Nest and the reference's; Equal; the law's small functions; the chapter's example. -/
import Derived.Test.YtfkidjkpgliffaaNs4
namespace Go.Proofs.Ytfkidjkpgliffaa
open Go.RowKit
/-- The places and the items without one, after k items. -/
def nestTo (w h gap : Int) (l : List It) : Nat → List Pl × List Int
  | 0 => ([], [])
  | k + 1 => bif (spotF w h gap l (nestTo w h gap l k).1 (k : Int)).2 then ((nestTo w h gap l k).1 ++ [(spotF w h gap l (nestTo w h gap l k).1 (k : Int)).1], (nestTo w h gap l k).2) else ((nestTo w h gap l k).1, (nestTo w h gap l k).2 ++ [(k : Int)])
def nestF (w h gap : Int) (l : List It) : List Pl × List Int × Int := bif admF w h gap l then ((nestTo w h gap l l.length).1, (nestTo w h gap l l.length).2, 0) else ([], [], 1)
theorem first_spec {w h gap : Int} {l : List It} {p : List Pl} {item : Int} {at_ : List It} (hf : (firstF w h gap l p item at_).2 = true) : (firstF w h gap l p item at_).1.1 = item ∧ goodS w h gap l p (firstF w h gap l p item at_).1 = true := by
  induction at_ with
  | nil => simp [firstF, candF] at hf
  | cons a r ih =>
    rw [first_cons] at hf ⊢
    cases h1 : goodS w h gap l p (item, a.1, a.2, false) with
    | true => exact ⟨rfl, h1⟩
    | false =>
      rw [h1] at hf
      cases h2 : goodS w h gap l p (item, a.1, a.2, true) with
      | true => exact ⟨rfl, h2⟩
      | false => rw [h2] at hf; exact ih hf
structure NInv (w h gap : Int) (l : List It) (k : Nat) (p : List Pl) (r : List Int) : Prop where
  v : validF w h gap l p = true
  i : ∀ y ∈ p, 0 ≤ y.1 ∧ y.1 < (k : Int)
  n : p.length + r.length = k
theorem nest_st {w h gap : Int} {l : List It} {k : Nat} {p : List Pl} {r : List Int} (hi : NInv w h gap l k p r) (hk : k < l.length) : stP w h gap l p (k : Int) := by
  obtain ⟨a, _⟩ := valid_in hi.v
  refine ⟨hi.v, ?_, ⟨by omega, by omega⟩, List.all_eq_true.2 fun y hy => ?_⟩
  · unfold fP; have := hi.n; have := a.n; omega
  · have := hi.i y hy
    simp; omega
theorem good_ok {w h gap : Int} {l : List It} {p : List Pl} {item : Int} (hs : stP w h gap l p item) {x : Pl} (hx : x.1 = item) (hg : goodS w h gap l p x = true) : validF w h gap l (p ++ [x]) = true := by
  obtain ⟨i, a, b, t⟩ := x
  subst hx
  have := fits_good hs a b t
  rw [hg] at this
  unfold fitsF at this
  rw [Bool.and_eq_true] at this
  exact this.2
theorem nest_inv {w h gap : Int} {l : List It} (ha : admF w h gap l = true) : ∀ k, k ≤ l.length → NInv w h gap l k (nestTo w h gap l k).1 (nestTo w h gap l k).2
  | 0, _ => ⟨by simp [nestTo, validF, ha, okL], by simp [nestTo], by simp [nestTo]⟩
  | k + 1, hk => by
    have ih := nest_inv ha k (by omega)
    have hs := nest_st ih (by omega)
    rw [nestTo]
    cases hf : (spotF w h gap l (nestTo w h gap l k).1 (k : Int)).2 with
    | true =>
      obtain ⟨e1, e2⟩ := first_spec hf
      refine ⟨good_ok hs e1 e2, fun y hy => ?_, ?_⟩
      · rcases List.mem_append.1 hy with hy | hy
        · have := ih.i y hy; omega
        · simp at hy
          subst hy
          unfold spotF
          omega
      · have := ih.n
        simp only [cond_true, List.length_append, List.length_singleton]
        omega
    | false =>
      refine ⟨ih.v, fun y hy => ?_, ?_⟩
      · have := ih.i y hy; omega
      · have := ih.n
        simp only [cond_false, List.length_append, List.length_singleton]
        omega
def cst_sp : Spec := { keep := true, run := fun _ args k => match args with
  | [.d (.int .i64) w, .d (.int .i64) h, .d (.int .i64) gap, .d (.sl (.st (.pair (.int .i64) (.int .i64)))) l, .d (.sl (.st (.pair (.int .i64) (.pair (.int .i64) (.pair (.int .i64) .bool))))) p, .d (.int .i64) item] => match decide (stP w h gap l p item) with
    | true => k [RV.d (.st (.pair (.int .i64) (.pair (.int .i64) (.pair (.int .i64) .bool)))) ((spotF w h gap l p item).1), RV.d .bool ((spotF w h gap l p item).2)]
    | false => none
  | _ => none }
theorem cst_spec : callable Try.prog 56 = true ∧ SpecOk Try.prog 56 cst_sp ∧ ∀ g, cst_sp.mut_ = some g → MCon Try.prog 56 g := by
  refine ⟨by kernel_rfl, fun R args k r h => ?_, fun g h => by simp [cst_sp] at h⟩
  unfold cst_sp at h
  dsimp only at h
  split at h <;> try (cases h; done)
  split at h <;> try (cases h; done)
  rename_i hd
  exact ⟨_, h, cst_con _ _ _ _ _ _ (of_decide_eq_true hd)⟩
def rst_sp : Spec := { keep := true, run := fun _ args k => match args with
  | [.d (.int .i64) w, .d (.int .i64) h, .d (.int .i64) gap, .d (.sl (.st (.pair (.int .i64) (.int .i64)))) l, .d (.sl (.st (.pair (.int .i64) (.pair (.int .i64) (.pair (.int .i64) .bool))))) p, .d (.int .i64) item] => match decide (stP w h gap l p item) with
    | true => k [RV.d (.st (.pair (.int .i64) (.pair (.int .i64) (.pair (.int .i64) .bool)))) ((spotF w h gap l p item).1), RV.d .bool ((spotF w h gap l p item).2)]
    | false => none
  | _ => none }
theorem rst_spec : callable Try.prog 57 = true ∧ SpecOk Try.prog 57 rst_sp ∧ ∀ g, rst_sp.mut_ = some g → MCon Try.prog 57 g := by
  refine ⟨by kernel_rfl, fun R args k r h => ?_, fun g h => by simp [rst_sp] at h⟩
  unfold rst_sp at h
  dsimp only at h
  split at h <;> try (cases h; done)
  split at h <;> try (cases h; done)
  rename_i hd
  exact ⟨_, h, rst_con _ _ _ _ _ _ (of_decide_eq_true hd)⟩
def env7 : Env := [(55, cad_sp), (30, rad_sp), (56, cst_sp), (57, rst_sp)]
theorem env7_ok : EnvAll Try.prog env7 := ⟨cad_spec, rad_spec, cst_spec, rst_spec, trivial⟩
def cne_nt : NT := [((16, 18), { keep := [0, 1, 2, 3, 11, 12, 23, 24], own := [(11, 52, .st (.pair (.int .i64) (.pair (.int .i64) (.pair (.int .i64) .bool)))), (12, 3, .int .i64)], hl := 2 })]
noncomputable def cne_C : Ctx := ⟨Try.prog, ft, tys, env7, cne_nt⟩
def cne_h18 (w : Int) (h : Int) (gap : Int) (l : List (Int × Int)) (s24 : Int) (r0 : List (Int × Int × Int × Bool)) (r1 : List Int) : Cfg := ⟨16, [.blk 0, .seq 37], [(0, SI w), (1, SI h), (2, SI gap), (3, .d (.sl (.st (.pair (.int .i64) (.int .i64)))) l), (11, .own 0), (12, .own 1), (23, SI (l.length : Int)), (24, SI s24)], [.row 52 (.st (.pair (.int .i64) (.pair (.int .i64) (.pair (.int .i64) .bool)))) r0, .row 3 (.int .i64) r1], 0, []⟩
def cne_t (k : Nat → Cfg → Option (List RV)) (w : Int) (h : Int) (gap : Int) (l : List (Int × Int)) : Option (List RV) := match !(admF w h gap l) with | true => some [RV.d (.sl (.st (.pair (.int .i64) (.pair (.int .i64) (.pair (.int .i64) .bool))))) ([]), RV.d (.sl (.int .i64)) ([]), RV.d (.int .i64) 1] | false => k 18 (cne_h18 w h gap l 0 ([]) ([]))
theorem cne_eq (k : Nat → Cfg → Option (List RV)) (w : Int) (h : Int) (gap : Int) (l : List (Int × Int)) : go Try.prog ft tys env7 cne_nt k 4000 (start 16 [SI w, SI h, SI gap, .d (.sl (.st (.pair (.int .i64) (.int .i64)))) l]) (.node 0) = cne_t k w h gap l := by kernel_rfl
theorem cne_s (w : Int) (h : Int) (gap : Int) (l : List (Int × Int)) {rX : List RV} (hX : ∃ nX, cne_t (cne_C.k nX) w h gap l = some rX) : cne_C.Res 16 [SI w, SI h, SI gap, .d (.sl (.st (.pair (.int .i64) (.int .i64)))) l] rX := by
  obtain ⟨nX, hX⟩ := hX
  exact ⟨nX, (cne_eq _ w h gap l).trans hX⟩
def cne_h18_t (k : Nat → Cfg → Option (List RV)) (w : Int) (h : Int) (gap : Int) (l : List (Int × Int)) (s24 : Int) (r0 : List (Int × Int × Int × Bool)) (r1 : List Int) : Option (List RV) := match decide (s24 < (l.length : Int)) with | true => (match decide (stP w h gap l r0 s24) with | true => (match (spotF w h gap l r0 s24).2 with | true => (match decide ((r0.length + ([(((spotF w h gap l r0 s24).1).1, ((((spotF w h gap l r0 s24).1).2).1, (((((spotF w h gap l r0 s24).1).2).2).1, ((((spotF w h gap l r0 s24).1).2).2).2)))]).length) * 32 ≤ 140737488355328 ∧ r0.length + ([(((spotF w h gap l r0 s24).1).1, ((((spotF w h gap l r0 s24).1).2).1, (((((spotF w h gap l r0 s24).1).2).2).1, ((((spotF w h gap l r0 s24).1).2).2).2)))]).length ≤ 140737488355328) with | true => k 18 (cne_h18 w h gap l (IntKind.i64.wrap (s24 + 1)) (r0 ++ ([(((spotF w h gap l r0 s24).1).1, ((((spotF w h gap l r0 s24).1).2).1, (((((spotF w h gap l r0 s24).1).2).2).1, ((((spotF w h gap l r0 s24).1).2).2).2)))])) r1) | false => none) | false => (match decide ((r1.length + ([s24]).length) * 8 ≤ 140737488355328 ∧ r1.length + ([s24]).length ≤ 140737488355328) with | true => k 18 (cne_h18 w h gap l (IntKind.i64.wrap (s24 + 1)) r0 (r1 ++ ([s24]))) | false => none)) | false => none) | false => some [RV.d (.sl (.st (.pair (.int .i64) (.pair (.int .i64) (.pair (.int .i64) .bool))))) r0, RV.d (.sl (.int .i64)) r1, RV.d (.int .i64) 0]
theorem cne_h18_eq (k : Nat → Cfg → Option (List RV)) (w : Int) (h : Int) (gap : Int) (l : List (Int × Int)) (s24 : Int) (r0 : List (Int × Int × Int × Bool)) (r1 : List Int) : go Try.prog ft tys env7 cne_nt k 4000 { cne_h18 w h gap l s24 r0 r1 with K := .lp 18 :: (cne_h18 w h gap l s24 r0 r1).K } (.node 19) = cne_h18_t k w h gap l s24 r0 r1 := by kernel_rfl
theorem cne_h18_s (w : Int) (h : Int) (gap : Int) (l : List (Int × Int)) (s24 : Int) (r0 : List (Int × Int × Int × Bool)) (r1 : List Int) {rX : List RV} (hX : ∃ nX, cne_h18_t (cne_C.k nX) w h gap l s24 r0 r1 = some rX) : cne_C.Runs 18 (cne_h18 w h gap l s24 r0 r1) rX := by
  obtain ⟨nX, hX⟩ := hX
  exact ⟨nX + 1, (cne_h18_eq _ w h gap l s24 r0 r1).trans hX⟩
def rne_nt : NT := [((18, 18), { keep := [0, 1, 2, 3, 11, 12, 13], own := [(11, 39, .st (.pair (.int .i64) (.pair (.int .i64) (.pair (.int .i64) .bool)))), (12, 3, .int .i64)], hl := 2 })]
noncomputable def rne_C : Ctx := ⟨Try.prog, ft, tys, env7, rne_nt⟩
def rne_h18 (w : Int) (h : Int) (gap : Int) (l : List (Int × Int)) (s13 : Int) (r0 : List (Int × Int × Int × Bool)) (r1 : List Int) : Cfg := ⟨18, [.blk 0, .seq 35], [(0, SI w), (1, SI h), (2, SI gap), (3, .d (.sl (.st (.pair (.int .i64) (.int .i64)))) l), (11, .own 0), (12, .own 1), (13, SI s13)], [.row 39 (.st (.pair (.int .i64) (.pair (.int .i64) (.pair (.int .i64) .bool)))) r0, .row 3 (.int .i64) r1], 0, []⟩
def rne_t (k : Nat → Cfg → Option (List RV)) (w : Int) (h : Int) (gap : Int) (l : List (Int × Int)) : Option (List RV) := match !(admF w h gap l) with | true => some [RV.d (.sl (.st (.pair (.int .i64) (.pair (.int .i64) (.pair (.int .i64) .bool))))) ([]), RV.d (.sl (.int .i64)) ([]), RV.d (.int .i64) 1] | false => k 18 (rne_h18 w h gap l 0 ([]) ([]))
theorem rne_eq (k : Nat → Cfg → Option (List RV)) (w : Int) (h : Int) (gap : Int) (l : List (Int × Int)) : go Try.prog ft tys env7 rne_nt k 4000 (start 18 [SI w, SI h, SI gap, .d (.sl (.st (.pair (.int .i64) (.int .i64)))) l]) (.node 0) = rne_t k w h gap l := by kernel_rfl
theorem rne_s (w : Int) (h : Int) (gap : Int) (l : List (Int × Int)) {rX : List RV} (hX : ∃ nX, rne_t (rne_C.k nX) w h gap l = some rX) : rne_C.Res 18 [SI w, SI h, SI gap, .d (.sl (.st (.pair (.int .i64) (.int .i64)))) l] rX := by
  obtain ⟨nX, hX⟩ := hX
  exact ⟨nX, (rne_eq _ w h gap l).trans hX⟩
def rne_h18_t (k : Nat → Cfg → Option (List RV)) (w : Int) (h : Int) (gap : Int) (l : List (Int × Int)) (s13 : Int) (r0 : List (Int × Int × Int × Bool)) (r1 : List Int) : Option (List RV) := match decide (s13 < (l.length : Int)) with | true => (match decide (stP w h gap l r0 s13) with | true => (match (spotF w h gap l r0 s13).2 with | true => (match decide ((r0.length + ([(((spotF w h gap l r0 s13).1).1, ((((spotF w h gap l r0 s13).1).2).1, (((((spotF w h gap l r0 s13).1).2).2).1, ((((spotF w h gap l r0 s13).1).2).2).2)))]).length) * 32 ≤ 140737488355328 ∧ r0.length + ([(((spotF w h gap l r0 s13).1).1, ((((spotF w h gap l r0 s13).1).2).1, (((((spotF w h gap l r0 s13).1).2).2).1, ((((spotF w h gap l r0 s13).1).2).2).2)))]).length ≤ 140737488355328) with | true => k 18 (rne_h18 w h gap l (IntKind.i64.wrap (s13 + 1)) (r0 ++ ([(((spotF w h gap l r0 s13).1).1, ((((spotF w h gap l r0 s13).1).2).1, (((((spotF w h gap l r0 s13).1).2).2).1, ((((spotF w h gap l r0 s13).1).2).2).2)))])) r1) | false => none) | false => (match decide ((r1.length + ([s13]).length) * 8 ≤ 140737488355328 ∧ r1.length + ([s13]).length ≤ 140737488355328) with | true => k 18 (rne_h18 w h gap l (IntKind.i64.wrap (s13 + 1)) r0 (r1 ++ ([s13]))) | false => none)) | false => none) | false => some [RV.d (.sl (.st (.pair (.int .i64) (.pair (.int .i64) (.pair (.int .i64) .bool))))) r0, RV.d (.sl (.int .i64)) r1, RV.d (.int .i64) 0]
theorem rne_h18_eq (k : Nat → Cfg → Option (List RV)) (w : Int) (h : Int) (gap : Int) (l : List (Int × Int)) (s13 : Int) (r0 : List (Int × Int × Int × Bool)) (r1 : List Int) : go Try.prog ft tys env7 rne_nt k 4000 { rne_h18 w h gap l s13 r0 r1 with K := .lp 18 :: (rne_h18 w h gap l s13 r0 r1).K } (.node 19) = rne_h18_t k w h gap l s13 r0 r1 := by kernel_rfl
theorem rne_h18_s (w : Int) (h : Int) (gap : Int) (l : List (Int × Int)) (s13 : Int) (r0 : List (Int × Int × Int × Bool)) (r1 : List Int) {rX : List RV} (hX : ∃ nX, rne_h18_t (rne_C.k nX) w h gap l s13 r0 r1 = some rX) : rne_C.Runs 18 (rne_h18 w h gap l s13 r0 r1) rX := by
  obtain ⟨nX, hX⟩ := hX
  exact ⟨nX + 1, (rne_h18_eq _ w h gap l s13 r0 r1).trans hX⟩
theorem cne_loop {w h gap : Int} {l : List It} (ha : admF w h gap l = true) : ∀ d k, l.length - k = d → k ≤ l.length → cne_C.Runs 18 (cne_h18 w h gap l (k : Int) (nestTo w h gap l k).1 (nestTo w h gap l k).2) [.d (.sl (.st (.pair (.int .i64) (.pair (.int .i64) (.pair (.int .i64) .bool))))) (nestTo w h gap l l.length).1, .d (.sl (.int .i64)) (nestTo w h gap l l.length).2, .d (.int .i64) (0 : Int)] := by
  have a := adm_of ha
  intro d
  induction d with
  | zero =>
    intro k hd hk
    have : k = l.length := by omega
    subst this
    refine cne_h18_s _ _ _ _ _ _ _ ⟨0, ?_⟩
    unfold cne_h18_t
    rw [ge_dec (Nat.le_refl _)]
  | succ d ih =>
    intro k hd hk
    have hlt : k < l.length := by omega
    have hn := ih (k + 1) (by omega) (by omega)
    have hi := nest_inv ha k hk
    have hs := nest_st hi hlt
    have hln := hi.n
    have hl50 := a.n
    rw [nestTo] at hn
    refine cne_h18_s _ _ _ _ _ _ _ ?_
    unfold cne_h18_t
    rw [lt_dec hlt, decide_eq_true hs, wrapS (by omega)]
    dsimp only
    generalize nestTo w h gap l k = q at hn hln hs ⊢
    generalize spotF w h gap l q.1 (k : Int) = y at hn ⊢
    obtain ⟨⟨y1, y2, y3, y4⟩, b⟩ := y
    dsimp only at *
    cases b with
    | true =>
      rw [List.length_singleton, app_ok (by omega) (by omega)]
      exact hn
    | false =>
      dsimp only
      rw [List.length_singleton, app_ok (by omega) (by omega)]
      exact hn
theorem cne_con (w h gap : Int) (l : List It) : Con Try.prog 16 [SI w, SI h, SI gap, .d (.sl (.st (.pair (.int .i64) (.int .i64)))) l] [.d (.sl (.st (.pair (.int .i64) (.pair (.int .i64) (.pair (.int .i64) .bool))))) (nestF w h gap l).1, .d (.sl (.int .i64)) (nestF w h gap l).2.1, .d (.int .i64) (nestF w h gap l).2.2] := by
  refine Ctx.Res.con (C := cne_C) (ctx_ok env7_ok) ?_ (fn := Try.f16) (by kernel_rfl) (by kernel_rfl)
  refine cne_s _ _ _ _ ?_
  unfold cne_t nestF
  cases ha : admF w h gap l with
  | false => exact ⟨0, rfl⟩
  | true => exact cne_loop ha _ 0 rfl (Nat.zero_le _)
theorem rne_loop {w h gap : Int} {l : List It} (ha : admF w h gap l = true) : ∀ d k, l.length - k = d → k ≤ l.length → rne_C.Runs 18 (rne_h18 w h gap l (k : Int) (nestTo w h gap l k).1 (nestTo w h gap l k).2) [.d (.sl (.st (.pair (.int .i64) (.pair (.int .i64) (.pair (.int .i64) .bool))))) (nestTo w h gap l l.length).1, .d (.sl (.int .i64)) (nestTo w h gap l l.length).2, .d (.int .i64) (0 : Int)] := by
  have a := adm_of ha
  intro d
  induction d with
  | zero =>
    intro k hd hk
    have : k = l.length := by omega
    subst this
    refine rne_h18_s _ _ _ _ _ _ _ ⟨0, ?_⟩
    unfold rne_h18_t
    rw [ge_dec (Nat.le_refl _)]
  | succ d ih =>
    intro k hd hk
    have hlt : k < l.length := by omega
    have hn := ih (k + 1) (by omega) (by omega)
    have hi := nest_inv ha k hk
    have hs := nest_st hi hlt
    have hln := hi.n
    have hl50 := a.n
    rw [nestTo] at hn
    refine rne_h18_s _ _ _ _ _ _ _ ?_
    unfold rne_h18_t
    rw [lt_dec hlt, decide_eq_true hs, wrapS (by omega)]
    dsimp only
    generalize nestTo w h gap l k = q at hn hln hs ⊢
    generalize spotF w h gap l q.1 (k : Int) = y at hn ⊢
    obtain ⟨⟨y1, y2, y3, y4⟩, b⟩ := y
    dsimp only at *
    cases b with
    | true =>
      rw [List.length_singleton, app_ok (by omega) (by omega)]
      exact hn
    | false =>
      dsimp only
      rw [List.length_singleton, app_ok (by omega) (by omega)]
      exact hn
theorem rne_con (w h gap : Int) (l : List It) : Con Try.prog 18 [SI w, SI h, SI gap, .d (.sl (.st (.pair (.int .i64) (.int .i64)))) l] [.d (.sl (.st (.pair (.int .i64) (.pair (.int .i64) (.pair (.int .i64) .bool))))) (nestF w h gap l).1, .d (.sl (.int .i64)) (nestF w h gap l).2.1, .d (.int .i64) (nestF w h gap l).2.2] := by
  refine Ctx.Res.con (C := rne_C) (ctx_ok env7_ok) ?_ (fn := Try.f18) (by kernel_rfl) (by kernel_rfl)
  refine rne_s _ _ _ _ ?_
  unfold rne_t nestF
  cases ha : admF w h gap l with
  | false => exact ⟨0, rfl⟩
  | true => exact rne_loop ha _ 0 rfl (Nat.zero_le _)
def its_nt : NT := [((17, 8), { keep := [3, 6, 7, 8], own := [(3, 78, .st (.pair (.int .i64) (.int .i64)))], hl := 1 })]
noncomputable def its_C : Ctx := ⟨Try.prog, ft, tys, [], its_nt⟩
def its_h8 (l : List (Int × Int)) (s8 : Int) (r0 : List (Int × Int)) : Cfg := ⟨17, [.blk 0, .seq 21], [(3, .own 0), (6, .d (.sl (.st (.pair (.int .i64) (.int .i64)))) l), (7, SI (l.length : Int)), (8, SI s8)], [.row 78 (.st (.pair (.int .i64) (.int .i64))) r0], 0, []⟩
def its_t (k : Nat → Cfg → Option (List RV)) (l : List (Int × Int)) : Option (List RV) := k 8 (its_h8 l 0 ([]))
theorem its_eq (k : Nat → Cfg → Option (List RV)) (l : List (Int × Int)) : go Try.prog ft tys [] its_nt k 4000 (start 17 [.d (.sl (.st (.pair (.int .i64) (.int .i64)))) l]) (.node 0) = its_t k l := by kernel_rfl
theorem its_s (l : List (Int × Int)) {rX : List RV} (hX : ∃ nX, its_t (its_C.k nX) l = some rX) : its_C.Res 17 [.d (.sl (.st (.pair (.int .i64) (.int .i64)))) l] rX := by
  obtain ⟨nX, hX⟩ := hX
  exact ⟨nX, (its_eq _ l).trans hX⟩
def its_h8_t (k : Nat → Cfg → Option (List RV)) (l : List (Int × Int)) (s8 : Int) (r0 : List (Int × Int)) : Option (List RV) := match decide (s8 < (l.length : Int)) with | true => (match getI l s8 with | some x1 => (match decide ((r0.length + ([(x1.1, x1.2)]).length) * 16 ≤ 140737488355328 ∧ r0.length + ([(x1.1, x1.2)]).length ≤ 140737488355328) with | true => k 8 (its_h8 l (IntKind.i64.wrap (s8 + 1)) (r0 ++ ([(x1.1, x1.2)]))) | false => none) | none => none) | false => some [RV.new 78 (.st (.pair (.int .i64) (.int .i64))) r0]
theorem its_h8_eq (k : Nat → Cfg → Option (List RV)) (l : List (Int × Int)) (s8 : Int) (r0 : List (Int × Int)) : go Try.prog ft tys [] its_nt k 4000 { its_h8 l s8 r0 with K := .lp 8 :: (its_h8 l s8 r0).K } (.node 9) = its_h8_t k l s8 r0 := by kernel_rfl
theorem its_h8_s (l : List (Int × Int)) (s8 : Int) (r0 : List (Int × Int)) {rX : List RV} (hX : ∃ nX, its_h8_t (its_C.k nX) l s8 r0 = some rX) : its_C.Runs 8 (its_h8 l s8 r0) rX := by
  obtain ⟨nX, hX⟩ := hX
  exact ⟨nX + 1, (its_h8_eq _ l s8 r0).trans hX⟩
def pls_nt : NT := [((24, 8), { keep := [3, 6, 7, 8], own := [(3, 52, .st (.pair (.int .i64) (.pair (.int .i64) (.pair (.int .i64) .bool))))], hl := 1 })]
noncomputable def pls_C : Ctx := ⟨Try.prog, ft, tys, [], pls_nt⟩
def pls_h8 (p : List (Int × Int × Int × Bool)) (s8 : Int) (r0 : List (Int × Int × Int × Bool)) : Cfg := ⟨24, [.blk 0, .seq 21], [(3, .own 0), (6, .d (.sl (.st (.pair (.int .i64) (.pair (.int .i64) (.pair (.int .i64) .bool))))) p), (7, SI (p.length : Int)), (8, SI s8)], [.row 52 (.st (.pair (.int .i64) (.pair (.int .i64) (.pair (.int .i64) .bool)))) r0], 0, []⟩
def pls_t (k : Nat → Cfg → Option (List RV)) (p : List (Int × Int × Int × Bool)) : Option (List RV) := k 8 (pls_h8 p 0 ([]))
theorem pls_eq (k : Nat → Cfg → Option (List RV)) (p : List (Int × Int × Int × Bool)) : go Try.prog ft tys [] pls_nt k 4000 (start 24 [.d (.sl (.st (.pair (.int .i64) (.pair (.int .i64) (.pair (.int .i64) .bool))))) p]) (.node 0) = pls_t k p := by kernel_rfl
theorem pls_s (p : List (Int × Int × Int × Bool)) {rX : List RV} (hX : ∃ nX, pls_t (pls_C.k nX) p = some rX) : pls_C.Res 24 [.d (.sl (.st (.pair (.int .i64) (.pair (.int .i64) (.pair (.int .i64) .bool))))) p] rX := by
  obtain ⟨nX, hX⟩ := hX
  exact ⟨nX, (pls_eq _ p).trans hX⟩
def pls_h8_t (k : Nat → Cfg → Option (List RV)) (p : List (Int × Int × Int × Bool)) (s8 : Int) (r0 : List (Int × Int × Int × Bool)) : Option (List RV) := match decide (s8 < (p.length : Int)) with | true => (match getI p s8 with | some x1 => (match decide ((r0.length + ([(x1.1, (x1.2.1, (x1.2.2.1, x1.2.2.2)))]).length) * 32 ≤ 140737488355328 ∧ r0.length + ([(x1.1, (x1.2.1, (x1.2.2.1, x1.2.2.2)))]).length ≤ 140737488355328) with | true => k 8 (pls_h8 p (IntKind.i64.wrap (s8 + 1)) (r0 ++ ([(x1.1, (x1.2.1, (x1.2.2.1, x1.2.2.2)))]))) | false => none) | none => none) | false => some [RV.new 52 (.st (.pair (.int .i64) (.pair (.int .i64) (.pair (.int .i64) .bool)))) r0]
theorem pls_h8_eq (k : Nat → Cfg → Option (List RV)) (p : List (Int × Int × Int × Bool)) (s8 : Int) (r0 : List (Int × Int × Int × Bool)) : go Try.prog ft tys [] pls_nt k 4000 { pls_h8 p s8 r0 with K := .lp 8 :: (pls_h8 p s8 r0).K } (.node 9) = pls_h8_t k p s8 r0 := by kernel_rfl
theorem pls_h8_s (p : List (Int × Int × Int × Bool)) (s8 : Int) (r0 : List (Int × Int × Int × Bool)) {rX : List RV} (hX : ∃ nX, pls_h8_t (pls_C.k nX) p s8 r0 = some rX) : pls_C.Runs 8 (pls_h8 p s8 r0) rX := by
  obtain ⟨nX, hX⟩ := hX
  exact ⟨nX + 1, (pls_h8_eq _ p s8 r0).trans hX⟩
def bks_nt : NT := [((20, 8), { keep := [3, 6, 7, 8], own := [(3, 39, .st (.pair (.int .i64) (.pair (.int .i64) (.pair (.int .i64) .bool))))], hl := 1 })]
noncomputable def bks_C : Ctx := ⟨Try.prog, ft, tys, [], bks_nt⟩
def bks_h8 (p : List (Int × Int × Int × Bool)) (s8 : Int) (r0 : List (Int × Int × Int × Bool)) : Cfg := ⟨20, [.blk 0, .seq 21], [(3, .own 0), (6, .d (.sl (.st (.pair (.int .i64) (.pair (.int .i64) (.pair (.int .i64) .bool))))) p), (7, SI (p.length : Int)), (8, SI s8)], [.row 39 (.st (.pair (.int .i64) (.pair (.int .i64) (.pair (.int .i64) .bool)))) r0], 0, []⟩
def bks_t (k : Nat → Cfg → Option (List RV)) (p : List (Int × Int × Int × Bool)) : Option (List RV) := k 8 (bks_h8 p 0 ([]))
theorem bks_eq (k : Nat → Cfg → Option (List RV)) (p : List (Int × Int × Int × Bool)) : go Try.prog ft tys [] bks_nt k 4000 (start 20 [.d (.sl (.st (.pair (.int .i64) (.pair (.int .i64) (.pair (.int .i64) .bool))))) p]) (.node 0) = bks_t k p := by kernel_rfl
theorem bks_s (p : List (Int × Int × Int × Bool)) {rX : List RV} (hX : ∃ nX, bks_t (bks_C.k nX) p = some rX) : bks_C.Res 20 [.d (.sl (.st (.pair (.int .i64) (.pair (.int .i64) (.pair (.int .i64) .bool))))) p] rX := by
  obtain ⟨nX, hX⟩ := hX
  exact ⟨nX, (bks_eq _ p).trans hX⟩
def bks_h8_t (k : Nat → Cfg → Option (List RV)) (p : List (Int × Int × Int × Bool)) (s8 : Int) (r0 : List (Int × Int × Int × Bool)) : Option (List RV) := match decide (s8 < (p.length : Int)) with | true => (match getI p s8 with | some x1 => (match decide ((r0.length + ([(x1.1, (x1.2.1, (x1.2.2.1, x1.2.2.2)))]).length) * 32 ≤ 140737488355328 ∧ r0.length + ([(x1.1, (x1.2.1, (x1.2.2.1, x1.2.2.2)))]).length ≤ 140737488355328) with | true => k 8 (bks_h8 p (IntKind.i64.wrap (s8 + 1)) (r0 ++ ([(x1.1, (x1.2.1, (x1.2.2.1, x1.2.2.2)))]))) | false => none) | none => none) | false => some [RV.new 39 (.st (.pair (.int .i64) (.pair (.int .i64) (.pair (.int .i64) .bool)))) r0]
theorem bks_h8_eq (k : Nat → Cfg → Option (List RV)) (p : List (Int × Int × Int × Bool)) (s8 : Int) (r0 : List (Int × Int × Int × Bool)) : go Try.prog ft tys [] bks_nt k 4000 { bks_h8 p s8 r0 with K := .lp 8 :: (bks_h8 p s8 r0).K } (.node 9) = bks_h8_t k p s8 r0 := by kernel_rfl
theorem bks_h8_s (p : List (Int × Int × Int × Bool)) (s8 : Int) (r0 : List (Int × Int × Int × Bool)) {rX : List RV} (hX : ∃ nX, bks_h8_t (bks_C.k nX) p s8 r0 = some rX) : bks_C.Runs 8 (bks_h8 p s8 r0) rX := by
  obtain ⟨nX, hX⟩ := hX
  exact ⟨nX + 1, (bks_h8_eq _ p s8 r0).trans hX⟩
theorem its_loop (l : List It) (hb : l.length ≤ 1000) : ∀ d k, l.length - k = d → k ≤ l.length → its_C.Runs 8 (its_h8 l (k : Int) (l.take k)) [.new 78 (.st (.pair (.int .i64) (.int .i64))) l] := by
  intro d
  induction d with
  | zero =>
    intro k hd hk
    refine its_h8_s _ _ _ ⟨0, ?_⟩
    unfold its_h8_t
    rw [ge_dec (by omega), List.take_of_length_le (by omega)]
  | succ d ih =>
    intro k hd hk
    have hlt : k < l.length := by omega
    have hn := ih (k + 1) (by omega) (by omega)
    have hl : (l.take k).length = k := by simp; omega
    rw [List.take_succ_eq_append_getElem hlt] at hn
    refine its_h8_s _ _ _ ?_
    unfold its_h8_t
    rw [lt_dec hlt, getI_nat, List.getElem?_eq_getElem hlt]
    dsimp only
    rw [List.length_singleton, app_ok (by omega) (by omega), wrapS (by omega)]
    exact hn
theorem its_con (l : List It) (hb : l.length ≤ 1000) : Con Try.prog 17 [.d (.sl (.st (.pair (.int .i64) (.int .i64)))) l] [.new 78 (.st (.pair (.int .i64) (.int .i64))) l] := by
  refine Ctx.Res.con (C := its_C) (ctx_ok (E := []) trivial) ?_ (fn := Try.f17) (by kernel_rfl) (by kernel_rfl)
  refine its_s _ ?_
  unfold its_t
  exact its_loop l hb _ 0 rfl (Nat.zero_le _)
theorem pls_loop (p : List Pl) (hb : p.length ≤ 1000) : ∀ d k, p.length - k = d → k ≤ p.length → pls_C.Runs 8 (pls_h8 p (k : Int) (p.take k)) [.new 52 (.st (.pair (.int .i64) (.pair (.int .i64) (.pair (.int .i64) .bool)))) p] := by
  intro d
  induction d with
  | zero =>
    intro k hd hk
    refine pls_h8_s _ _ _ ⟨0, ?_⟩
    unfold pls_h8_t
    rw [ge_dec (by omega), List.take_of_length_le (by omega)]
  | succ d ih =>
    intro k hd hk
    have hlt : k < p.length := by omega
    have hn := ih (k + 1) (by omega) (by omega)
    have hl : (p.take k).length = k := by simp; omega
    rw [List.take_succ_eq_append_getElem hlt] at hn
    refine pls_h8_s _ _ _ ?_
    unfold pls_h8_t
    rw [lt_dec hlt, getI_nat, List.getElem?_eq_getElem hlt]
    dsimp only
    rw [List.length_singleton, app_ok (by omega) (by omega), wrapS (by omega)]
    exact hn
theorem pls_con (p : List Pl) (hb : p.length ≤ 1000) : Con Try.prog 24 [.d (.sl (.st (.pair (.int .i64) (.pair (.int .i64) (.pair (.int .i64) .bool))))) p] [.new 52 (.st (.pair (.int .i64) (.pair (.int .i64) (.pair (.int .i64) .bool)))) p] := by
  refine Ctx.Res.con (C := pls_C) (ctx_ok (E := []) trivial) ?_ (fn := Try.f24) (by kernel_rfl) (by kernel_rfl)
  refine pls_s _ ?_
  unfold pls_t
  exact pls_loop p hb _ 0 rfl (Nat.zero_le _)
theorem bks_loop (p : List Pl) (hb : p.length ≤ 1000) : ∀ d k, p.length - k = d → k ≤ p.length → bks_C.Runs 8 (bks_h8 p (k : Int) (p.take k)) [.new 39 (.st (.pair (.int .i64) (.pair (.int .i64) (.pair (.int .i64) .bool)))) p] := by
  intro d
  induction d with
  | zero =>
    intro k hd hk
    refine bks_h8_s _ _ _ ⟨0, ?_⟩
    unfold bks_h8_t
    rw [ge_dec (by omega), List.take_of_length_le (by omega)]
  | succ d ih =>
    intro k hd hk
    have hlt : k < p.length := by omega
    have hn := ih (k + 1) (by omega) (by omega)
    have hl : (p.take k).length = k := by simp; omega
    rw [List.take_succ_eq_append_getElem hlt] at hn
    refine bks_h8_s _ _ _ ?_
    unfold bks_h8_t
    rw [lt_dec hlt, getI_nat, List.getElem?_eq_getElem hlt]
    dsimp only
    rw [List.length_singleton, app_ok (by omega) (by omega), wrapS (by omega)]
    exact hn
theorem bks_con (p : List Pl) (hb : p.length ≤ 1000) : Con Try.prog 20 [.d (.sl (.st (.pair (.int .i64) (.pair (.int .i64) (.pair (.int .i64) .bool))))) p] [.new 39 (.st (.pair (.int .i64) (.pair (.int .i64) (.pair (.int .i64) .bool)))) p] := by
  refine Ctx.Res.con (C := bks_C) (ctx_ok (E := []) trivial) ?_ (fn := Try.f20) (by kernel_rfl) (by kernel_rfl)
  refine bks_s _ ?_
  unfold bks_t
  exact bks_loop p hb _ 0 rfl (Nat.zero_le _)
def eqi_nt : NT := [((21, 14), { keep := [0, 1, 12, 13], hl := 0 })]
noncomputable def eqi_C : Ctx := ⟨Try.prog, ft, tys, [], eqi_nt⟩
def eqi_h14 (a : List Int) (b : List Int) (s13 : Int) : Cfg := ⟨21, [.blk 0, .seq 33], [(0, .d (.sl (.int .i64)) a), (1, .d (.sl (.int .i64)) b), (12, SI (a.length : Int)), (13, SI s13)], [], 0, []⟩
def eqi_t (k : Nat → Cfg → Option (List RV)) (a : List Int) (b : List Int) : Option (List RV) := match (a.length : Int) != (b.length : Int) with | true => some [RV.d .bool false] | false => k 14 (eqi_h14 a b 0)
theorem eqi_eq (k : Nat → Cfg → Option (List RV)) (a : List Int) (b : List Int) : go Try.prog ft tys [] eqi_nt k 4000 (start 21 [.d (.sl (.int .i64)) a, .d (.sl (.int .i64)) b]) (.node 0) = eqi_t k a b := by kernel_rfl
theorem eqi_s (a : List Int) (b : List Int) {rX : List RV} (hX : ∃ nX, eqi_t (eqi_C.k nX) a b = some rX) : eqi_C.Res 21 [.d (.sl (.int .i64)) a, .d (.sl (.int .i64)) b] rX := by
  obtain ⟨nX, hX⟩ := hX
  exact ⟨nX, (eqi_eq _ a b).trans hX⟩
def eqi_h14_t (k : Nat → Cfg → Option (List RV)) (a : List Int) (b : List Int) (s13 : Int) : Option (List RV) := match decide (s13 < (a.length : Int)) with | true => (match getI a s13 with | some x1 => (match getI b s13 with | some x2 => (match x1 != x2 with | true => some [RV.d .bool false] | false => k 14 (eqi_h14 a b (IntKind.i64.wrap (s13 + 1)))) | none => none) | none => none) | false => some [RV.d .bool true]
theorem eqi_h14_eq (k : Nat → Cfg → Option (List RV)) (a : List Int) (b : List Int) (s13 : Int) : go Try.prog ft tys [] eqi_nt k 4000 { eqi_h14 a b s13 with K := .lp 14 :: (eqi_h14 a b s13).K } (.node 15) = eqi_h14_t k a b s13 := by kernel_rfl
theorem eqi_h14_s (a : List Int) (b : List Int) (s13 : Int) {rX : List RV} (hX : ∃ nX, eqi_h14_t (eqi_C.k nX) a b s13 = some rX) : eqi_C.Runs 14 (eqi_h14 a b s13) rX := by
  obtain ⟨nX, hX⟩ := hX
  exact ⟨nX + 1, (eqi_h14_eq _ a b s13).trans hX⟩
theorem eqi_ne (x y : Int) : (x != y) = decide (x ≠ y) := by
  by_cases h : x = y
  · subst h; simp
  · rw [decide_eq_true h]
    simp only [Bool.not_eq_true', Bool.and_true, Bool.and_eq_false_iff, beq_eq_false_iff_ne, bne_iff_ne, ne_eq]
    first
      | exact h
      | (obtain ⟨x1, x2⟩ := x; obtain ⟨y1, y2⟩ := y
         simp only [Prod.mk.injEq, not_and] at h ⊢
         by_cases e : x1 = y1
         · exact .inr (h e)
         · exact .inl e)
      | (obtain ⟨x1, x2, x3, x4⟩ := x; obtain ⟨y1, y2, y3, y4⟩ := y
         simp only [Prod.mk.injEq, not_and] at h ⊢
         by_cases e1 : x1 = y1
         · by_cases e2 : x2 = y2
           · by_cases e3 : x3 = y3
             · exact .inr (.inr (.inr (h e1 e2 e3)))
             · exact .inr (.inr (.inl e3))
           · exact .inr (.inl e2)
         · exact .inl e1)
theorem eqi_loop (a b : List Int) (hl : a.length = b.length) (hb : a.length ≤ 1000000) : ∀ d k, a.length - k = d → k ≤ a.length → eqi_C.Runs 14 (eqi_h14 a b (k : Int)) [.d .bool (decide (a.drop k = b.drop k))] := by
  intro d
  induction d with
  | zero =>
    intro k hd hk
    refine eqi_h14_s _ _ _ ⟨0, ?_⟩
    unfold eqi_h14_t
    rw [ge_dec (by omega), drop_end (show a.length ≤ k by omega), drop_end (show b.length ≤ k by omega)]
    rfl
  | succ d ih =>
    intro k hd hk
    have h1 : k < a.length := by omega
    have h2 : k < b.length := by omega
    refine eqi_h14_s _ _ _ ?_
    unfold eqi_h14_t
    rw [lt_dec h1, getI_nat, getI_nat, List.getElem?_eq_getElem h1, List.getElem?_eq_getElem h2, drop_get h1, drop_get h2, wrapS (by omega)]
    dsimp only
    rw [eqi_ne]
    by_cases hc : a[k] = b[k]
    · rw [decide_eq_false (by simpa using hc), hc, show decide (b[k] :: a.drop (k + 1) = b[k] :: b.drop (k + 1)) = decide (a.drop (k + 1) = b.drop (k + 1)) from decide_eq_decide.2 ⟨fun e => (List.cons.inj e).2, fun e => by rw [e]⟩]
      exact ih (k + 1) (by omega) (by omega)
    · rw [decide_eq_true hc, decide_eq_false (by intro e; injection e with e; exact hc e)]
      exact ⟨0, rfl⟩
theorem eqi_con (a b : List Int) (hb : a.length ≤ 1000000) : Con Try.prog 21 [.d (.sl (.int .i64)) a, .d (.sl (.int .i64)) b] [.d .bool (decide (a = b))] := by
  refine Ctx.Res.con (C := eqi_C) (ctx_ok (E := []) trivial) ?_ (fn := Try.f21) (by kernel_rfl) (by kernel_rfl)
  refine eqi_s _ _ ?_
  unfold eqi_t
  by_cases hl : a.length = b.length
  · rw [show ((a.length : Int) != (b.length : Int)) = false by simp [hl]]
    exact eqi_loop a b hl hb _ 0 rfl (Nat.zero_le _)
  · rw [show ((a.length : Int) != (b.length : Int)) = true by simp; omega, decide_eq_false (by intro e; exact hl (congrArg List.length e))]
    exact ⟨0, rfl⟩
def eqg_nt : NT := [((22, 14), { keep := [0, 1, 12, 13], hl := 0 })]
noncomputable def eqg_C : Ctx := ⟨Try.prog, ft, tys, [], eqg_nt⟩
def eqg_h14 (a : List (Int × Int)) (b : List (Int × Int)) (s13 : Int) : Cfg := ⟨22, [.blk 0, .seq 33], [(0, .d (.sl (.st (.pair (.int .i64) (.int .i64)))) a), (1, .d (.sl (.st (.pair (.int .i64) (.int .i64)))) b), (12, SI (a.length : Int)), (13, SI s13)], [], 0, []⟩
def eqg_t (k : Nat → Cfg → Option (List RV)) (a : List (Int × Int)) (b : List (Int × Int)) : Option (List RV) := match (a.length : Int) != (b.length : Int) with | true => some [RV.d .bool false] | false => k 14 (eqg_h14 a b 0)
theorem eqg_eq (k : Nat → Cfg → Option (List RV)) (a : List (Int × Int)) (b : List (Int × Int)) : go Try.prog ft tys [] eqg_nt k 4000 (start 22 [.d (.sl (.st (.pair (.int .i64) (.int .i64)))) a, .d (.sl (.st (.pair (.int .i64) (.int .i64)))) b]) (.node 0) = eqg_t k a b := by kernel_rfl
theorem eqg_s (a : List (Int × Int)) (b : List (Int × Int)) {rX : List RV} (hX : ∃ nX, eqg_t (eqg_C.k nX) a b = some rX) : eqg_C.Res 22 [.d (.sl (.st (.pair (.int .i64) (.int .i64)))) a, .d (.sl (.st (.pair (.int .i64) (.int .i64)))) b] rX := by
  obtain ⟨nX, hX⟩ := hX
  exact ⟨nX, (eqg_eq _ a b).trans hX⟩
def eqg_h14_t (k : Nat → Cfg → Option (List RV)) (a : List (Int × Int)) (b : List (Int × Int)) (s13 : Int) : Option (List RV) := match decide (s13 < (a.length : Int)) with | true => (match getI a s13 with | some x1 => (match getI b s13 with | some x2 => (match !((x1.1 == x2.1) && ((x1.2 == x2.2) && true)) with | true => some [RV.d .bool false] | false => k 14 (eqg_h14 a b (IntKind.i64.wrap (s13 + 1)))) | none => none) | none => none) | false => some [RV.d .bool true]
theorem eqg_h14_eq (k : Nat → Cfg → Option (List RV)) (a : List (Int × Int)) (b : List (Int × Int)) (s13 : Int) : go Try.prog ft tys [] eqg_nt k 4000 { eqg_h14 a b s13 with K := .lp 14 :: (eqg_h14 a b s13).K } (.node 15) = eqg_h14_t k a b s13 := by kernel_rfl
theorem eqg_h14_s (a : List (Int × Int)) (b : List (Int × Int)) (s13 : Int) {rX : List RV} (hX : ∃ nX, eqg_h14_t (eqg_C.k nX) a b s13 = some rX) : eqg_C.Runs 14 (eqg_h14 a b s13) rX := by
  obtain ⟨nX, hX⟩ := hX
  exact ⟨nX + 1, (eqg_h14_eq _ a b s13).trans hX⟩
theorem eqg_ne (x y : It) : (!((x.1 == y.1) && ((x.2 == y.2) && true))) = decide (x ≠ y) := by
  by_cases h : x = y
  · subst h; simp
  · rw [decide_eq_true h]
    simp only [Bool.not_eq_true', Bool.and_true, Bool.and_eq_false_iff, beq_eq_false_iff_ne, bne_iff_ne, ne_eq]
    first
      | exact h
      | (obtain ⟨x1, x2⟩ := x; obtain ⟨y1, y2⟩ := y
         simp only [Prod.mk.injEq, not_and] at h ⊢
         by_cases e : x1 = y1
         · exact .inr (h e)
         · exact .inl e)
      | (obtain ⟨x1, x2, x3, x4⟩ := x; obtain ⟨y1, y2, y3, y4⟩ := y
         simp only [Prod.mk.injEq, not_and] at h ⊢
         by_cases e1 : x1 = y1
         · by_cases e2 : x2 = y2
           · by_cases e3 : x3 = y3
             · exact .inr (.inr (.inr (h e1 e2 e3)))
             · exact .inr (.inr (.inl e3))
           · exact .inr (.inl e2)
         · exact .inl e1)
theorem eqg_loop (a b : List It) (hl : a.length = b.length) (hb : a.length ≤ 1000000) : ∀ d k, a.length - k = d → k ≤ a.length → eqg_C.Runs 14 (eqg_h14 a b (k : Int)) [.d .bool (decide (a.drop k = b.drop k))] := by
  intro d
  induction d with
  | zero =>
    intro k hd hk
    refine eqg_h14_s _ _ _ ⟨0, ?_⟩
    unfold eqg_h14_t
    rw [ge_dec (by omega), drop_end (show a.length ≤ k by omega), drop_end (show b.length ≤ k by omega)]
    rfl
  | succ d ih =>
    intro k hd hk
    have h1 : k < a.length := by omega
    have h2 : k < b.length := by omega
    refine eqg_h14_s _ _ _ ?_
    unfold eqg_h14_t
    rw [lt_dec h1, getI_nat, getI_nat, List.getElem?_eq_getElem h1, List.getElem?_eq_getElem h2, drop_get h1, drop_get h2, wrapS (by omega)]
    dsimp only
    rw [eqg_ne]
    by_cases hc : a[k] = b[k]
    · rw [decide_eq_false (by simpa using hc), hc, show decide (b[k] :: a.drop (k + 1) = b[k] :: b.drop (k + 1)) = decide (a.drop (k + 1) = b.drop (k + 1)) from decide_eq_decide.2 ⟨fun e => (List.cons.inj e).2, fun e => by rw [e]⟩]
      exact ih (k + 1) (by omega) (by omega)
    · rw [decide_eq_true hc, decide_eq_false (by intro e; injection e with e; exact hc e)]
      exact ⟨0, rfl⟩
theorem eqg_con (a b : List It) (hb : a.length ≤ 1000000) : Con Try.prog 22 [.d (.sl (.st (.pair (.int .i64) (.int .i64)))) a, .d (.sl (.st (.pair (.int .i64) (.int .i64)))) b] [.d .bool (decide (a = b))] := by
  refine Ctx.Res.con (C := eqg_C) (ctx_ok (E := []) trivial) ?_ (fn := Try.f22) (by kernel_rfl) (by kernel_rfl)
  refine eqg_s _ _ ?_
  unfold eqg_t
  by_cases hl : a.length = b.length
  · rw [show ((a.length : Int) != (b.length : Int)) = false by simp [hl]]
    exact eqg_loop a b hl hb _ 0 rfl (Nat.zero_le _)
  · rw [show ((a.length : Int) != (b.length : Int)) = true by simp; omega, decide_eq_false (by intro e; exact hl (congrArg List.length e))]
    exact ⟨0, rfl⟩
def eqp_nt : NT := [((53, 14), { keep := [0, 1, 12, 13], hl := 0 })]
noncomputable def eqp_C : Ctx := ⟨Try.prog, ft, tys, [], eqp_nt⟩
def eqp_h14 (a : List (Int × Int × Int × Bool)) (b : List (Int × Int × Int × Bool)) (s13 : Int) : Cfg := ⟨53, [.blk 0, .seq 33], [(0, .d (.sl (.st (.pair (.int .i64) (.pair (.int .i64) (.pair (.int .i64) .bool))))) a), (1, .d (.sl (.st (.pair (.int .i64) (.pair (.int .i64) (.pair (.int .i64) .bool))))) b), (12, SI (a.length : Int)), (13, SI s13)], [], 0, []⟩
def eqp_t (k : Nat → Cfg → Option (List RV)) (a : List (Int × Int × Int × Bool)) (b : List (Int × Int × Int × Bool)) : Option (List RV) := match (a.length : Int) != (b.length : Int) with | true => some [RV.d .bool false] | false => k 14 (eqp_h14 a b 0)
theorem eqp_eq (k : Nat → Cfg → Option (List RV)) (a : List (Int × Int × Int × Bool)) (b : List (Int × Int × Int × Bool)) : go Try.prog ft tys [] eqp_nt k 4000 (start 53 [.d (.sl (.st (.pair (.int .i64) (.pair (.int .i64) (.pair (.int .i64) .bool))))) a, .d (.sl (.st (.pair (.int .i64) (.pair (.int .i64) (.pair (.int .i64) .bool))))) b]) (.node 0) = eqp_t k a b := by kernel_rfl
theorem eqp_s (a : List (Int × Int × Int × Bool)) (b : List (Int × Int × Int × Bool)) {rX : List RV} (hX : ∃ nX, eqp_t (eqp_C.k nX) a b = some rX) : eqp_C.Res 53 [.d (.sl (.st (.pair (.int .i64) (.pair (.int .i64) (.pair (.int .i64) .bool))))) a, .d (.sl (.st (.pair (.int .i64) (.pair (.int .i64) (.pair (.int .i64) .bool))))) b] rX := by
  obtain ⟨nX, hX⟩ := hX
  exact ⟨nX, (eqp_eq _ a b).trans hX⟩
def eqp_h14_t (k : Nat → Cfg → Option (List RV)) (a : List (Int × Int × Int × Bool)) (b : List (Int × Int × Int × Bool)) (s13 : Int) : Option (List RV) := match decide (s13 < (a.length : Int)) with | true => (match getI a s13 with | some x1 => (match getI b s13 with | some x2 => (match !((x1.1 == x2.1) && ((x1.2.1 == x2.2.1) && ((x1.2.2.1 == x2.2.2.1) && ((x1.2.2.2 == x2.2.2.2) && true)))) with | true => some [RV.d .bool false] | false => k 14 (eqp_h14 a b (IntKind.i64.wrap (s13 + 1)))) | none => none) | none => none) | false => some [RV.d .bool true]
theorem eqp_h14_eq (k : Nat → Cfg → Option (List RV)) (a : List (Int × Int × Int × Bool)) (b : List (Int × Int × Int × Bool)) (s13 : Int) : go Try.prog ft tys [] eqp_nt k 4000 { eqp_h14 a b s13 with K := .lp 14 :: (eqp_h14 a b s13).K } (.node 15) = eqp_h14_t k a b s13 := by kernel_rfl
theorem eqp_h14_s (a : List (Int × Int × Int × Bool)) (b : List (Int × Int × Int × Bool)) (s13 : Int) {rX : List RV} (hX : ∃ nX, eqp_h14_t (eqp_C.k nX) a b s13 = some rX) : eqp_C.Runs 14 (eqp_h14 a b s13) rX := by
  obtain ⟨nX, hX⟩ := hX
  exact ⟨nX + 1, (eqp_h14_eq _ a b s13).trans hX⟩
theorem eqp_ne (x y : Pl) : (!((x.1 == y.1) && ((x.2.1 == y.2.1) && ((x.2.2.1 == y.2.2.1) && ((x.2.2.2 == y.2.2.2) && true))))) = decide (x ≠ y) := by
  by_cases h : x = y
  · subst h; simp
  · rw [decide_eq_true h]
    simp only [Bool.not_eq_true', Bool.and_true, Bool.and_eq_false_iff, beq_eq_false_iff_ne, bne_iff_ne, ne_eq]
    first
      | exact h
      | (obtain ⟨x1, x2⟩ := x; obtain ⟨y1, y2⟩ := y
         simp only [Prod.mk.injEq, not_and] at h ⊢
         by_cases e : x1 = y1
         · exact .inr (h e)
         · exact .inl e)
      | (obtain ⟨x1, x2, x3, x4⟩ := x; obtain ⟨y1, y2, y3, y4⟩ := y
         simp only [Prod.mk.injEq, not_and] at h ⊢
         by_cases e1 : x1 = y1
         · by_cases e2 : x2 = y2
           · by_cases e3 : x3 = y3
             · exact .inr (.inr (.inr (h e1 e2 e3)))
             · exact .inr (.inr (.inl e3))
           · exact .inr (.inl e2)
         · exact .inl e1)
theorem eqp_loop (a b : List Pl) (hl : a.length = b.length) (hb : a.length ≤ 1000000) : ∀ d k, a.length - k = d → k ≤ a.length → eqp_C.Runs 14 (eqp_h14 a b (k : Int)) [.d .bool (decide (a.drop k = b.drop k))] := by
  intro d
  induction d with
  | zero =>
    intro k hd hk
    refine eqp_h14_s _ _ _ ⟨0, ?_⟩
    unfold eqp_h14_t
    rw [ge_dec (by omega), drop_end (show a.length ≤ k by omega), drop_end (show b.length ≤ k by omega)]
    rfl
  | succ d ih =>
    intro k hd hk
    have h1 : k < a.length := by omega
    have h2 : k < b.length := by omega
    refine eqp_h14_s _ _ _ ?_
    unfold eqp_h14_t
    rw [lt_dec h1, getI_nat, getI_nat, List.getElem?_eq_getElem h1, List.getElem?_eq_getElem h2, drop_get h1, drop_get h2, wrapS (by omega)]
    dsimp only
    rw [eqp_ne]
    by_cases hc : a[k] = b[k]
    · rw [decide_eq_false (by simpa using hc), hc, show decide (b[k] :: a.drop (k + 1) = b[k] :: b.drop (k + 1)) = decide (a.drop (k + 1) = b.drop (k + 1)) from decide_eq_decide.2 ⟨fun e => (List.cons.inj e).2, fun e => by rw [e]⟩]
      exact ih (k + 1) (by omega) (by omega)
    · rw [decide_eq_true hc, decide_eq_false (by intro e; injection e with e; exact hc e)]
      exact ⟨0, rfl⟩
theorem eqp_con (a b : List Pl) (hb : a.length ≤ 1000000) : Con Try.prog 53 [.d (.sl (.st (.pair (.int .i64) (.pair (.int .i64) (.pair (.int .i64) .bool))))) a, .d (.sl (.st (.pair (.int .i64) (.pair (.int .i64) (.pair (.int .i64) .bool))))) b] [.d .bool (decide (a = b))] := by
  refine Ctx.Res.con (C := eqp_C) (ctx_ok (E := []) trivial) ?_ (fn := Try.f53) (by kernel_rfl) (by kernel_rfl)
  refine eqp_s _ _ ?_
  unfold eqp_t
  by_cases hl : a.length = b.length
  · rw [show ((a.length : Int) != (b.length : Int)) = false by simp [hl]]
    exact eqp_loop a b hl hb _ 0 rfl (Nat.zero_le _)
  · rw [show ((a.length : Int) != (b.length : Int)) = true by simp; omega, decide_eq_false (by intro e; exact hl (congrArg List.length e))]
    exact ⟨0, rfl⟩
def eqr_nt : NT := [((19, 14), { keep := [0, 1, 12, 13], hl := 0 })]
noncomputable def eqr_C : Ctx := ⟨Try.prog, ft, tys, [], eqr_nt⟩
def eqr_h14 (a : List (Int × Int × Int × Bool)) (b : List (Int × Int × Int × Bool)) (s13 : Int) : Cfg := ⟨19, [.blk 0, .seq 33], [(0, .d (.sl (.st (.pair (.int .i64) (.pair (.int .i64) (.pair (.int .i64) .bool))))) a), (1, .d (.sl (.st (.pair (.int .i64) (.pair (.int .i64) (.pair (.int .i64) .bool))))) b), (12, SI (a.length : Int)), (13, SI s13)], [], 0, []⟩
def eqr_t (k : Nat → Cfg → Option (List RV)) (a : List (Int × Int × Int × Bool)) (b : List (Int × Int × Int × Bool)) : Option (List RV) := match (a.length : Int) != (b.length : Int) with | true => some [RV.d .bool false] | false => k 14 (eqr_h14 a b 0)
theorem eqr_eq (k : Nat → Cfg → Option (List RV)) (a : List (Int × Int × Int × Bool)) (b : List (Int × Int × Int × Bool)) : go Try.prog ft tys [] eqr_nt k 4000 (start 19 [.d (.sl (.st (.pair (.int .i64) (.pair (.int .i64) (.pair (.int .i64) .bool))))) a, .d (.sl (.st (.pair (.int .i64) (.pair (.int .i64) (.pair (.int .i64) .bool))))) b]) (.node 0) = eqr_t k a b := by kernel_rfl
theorem eqr_s (a : List (Int × Int × Int × Bool)) (b : List (Int × Int × Int × Bool)) {rX : List RV} (hX : ∃ nX, eqr_t (eqr_C.k nX) a b = some rX) : eqr_C.Res 19 [.d (.sl (.st (.pair (.int .i64) (.pair (.int .i64) (.pair (.int .i64) .bool))))) a, .d (.sl (.st (.pair (.int .i64) (.pair (.int .i64) (.pair (.int .i64) .bool))))) b] rX := by
  obtain ⟨nX, hX⟩ := hX
  exact ⟨nX, (eqr_eq _ a b).trans hX⟩
def eqr_h14_t (k : Nat → Cfg → Option (List RV)) (a : List (Int × Int × Int × Bool)) (b : List (Int × Int × Int × Bool)) (s13 : Int) : Option (List RV) := match decide (s13 < (a.length : Int)) with | true => (match getI a s13 with | some x1 => (match getI b s13 with | some x2 => (match !((x1.1 == x2.1) && ((x1.2.1 == x2.2.1) && ((x1.2.2.1 == x2.2.2.1) && ((x1.2.2.2 == x2.2.2.2) && true)))) with | true => some [RV.d .bool false] | false => k 14 (eqr_h14 a b (IntKind.i64.wrap (s13 + 1)))) | none => none) | none => none) | false => some [RV.d .bool true]
theorem eqr_h14_eq (k : Nat → Cfg → Option (List RV)) (a : List (Int × Int × Int × Bool)) (b : List (Int × Int × Int × Bool)) (s13 : Int) : go Try.prog ft tys [] eqr_nt k 4000 { eqr_h14 a b s13 with K := .lp 14 :: (eqr_h14 a b s13).K } (.node 15) = eqr_h14_t k a b s13 := by kernel_rfl
theorem eqr_h14_s (a : List (Int × Int × Int × Bool)) (b : List (Int × Int × Int × Bool)) (s13 : Int) {rX : List RV} (hX : ∃ nX, eqr_h14_t (eqr_C.k nX) a b s13 = some rX) : eqr_C.Runs 14 (eqr_h14 a b s13) rX := by
  obtain ⟨nX, hX⟩ := hX
  exact ⟨nX + 1, (eqr_h14_eq _ a b s13).trans hX⟩
theorem eqr_ne (x y : Pl) : (!((x.1 == y.1) && ((x.2.1 == y.2.1) && ((x.2.2.1 == y.2.2.1) && ((x.2.2.2 == y.2.2.2) && true))))) = decide (x ≠ y) := by
  by_cases h : x = y
  · subst h; simp
  · rw [decide_eq_true h]
    simp only [Bool.not_eq_true', Bool.and_true, Bool.and_eq_false_iff, beq_eq_false_iff_ne, bne_iff_ne, ne_eq]
    first
      | exact h
      | (obtain ⟨x1, x2⟩ := x; obtain ⟨y1, y2⟩ := y
         simp only [Prod.mk.injEq, not_and] at h ⊢
         by_cases e : x1 = y1
         · exact .inr (h e)
         · exact .inl e)
      | (obtain ⟨x1, x2, x3, x4⟩ := x; obtain ⟨y1, y2, y3, y4⟩ := y
         simp only [Prod.mk.injEq, not_and] at h ⊢
         by_cases e1 : x1 = y1
         · by_cases e2 : x2 = y2
           · by_cases e3 : x3 = y3
             · exact .inr (.inr (.inr (h e1 e2 e3)))
             · exact .inr (.inr (.inl e3))
           · exact .inr (.inl e2)
         · exact .inl e1)
theorem eqr_loop (a b : List Pl) (hl : a.length = b.length) (hb : a.length ≤ 1000000) : ∀ d k, a.length - k = d → k ≤ a.length → eqr_C.Runs 14 (eqr_h14 a b (k : Int)) [.d .bool (decide (a.drop k = b.drop k))] := by
  intro d
  induction d with
  | zero =>
    intro k hd hk
    refine eqr_h14_s _ _ _ ⟨0, ?_⟩
    unfold eqr_h14_t
    rw [ge_dec (by omega), drop_end (show a.length ≤ k by omega), drop_end (show b.length ≤ k by omega)]
    rfl
  | succ d ih =>
    intro k hd hk
    have h1 : k < a.length := by omega
    have h2 : k < b.length := by omega
    refine eqr_h14_s _ _ _ ?_
    unfold eqr_h14_t
    rw [lt_dec h1, getI_nat, getI_nat, List.getElem?_eq_getElem h1, List.getElem?_eq_getElem h2, drop_get h1, drop_get h2, wrapS (by omega)]
    dsimp only
    rw [eqr_ne]
    by_cases hc : a[k] = b[k]
    · rw [decide_eq_false (by simpa using hc), hc, show decide (b[k] :: a.drop (k + 1) = b[k] :: b.drop (k + 1)) = decide (a.drop (k + 1) = b.drop (k + 1)) from decide_eq_decide.2 ⟨fun e => (List.cons.inj e).2, fun e => by rw [e]⟩]
      exact ih (k + 1) (by omega) (by omega)
    · rw [decide_eq_true hc, decide_eq_false (by intro e; injection e with e; exact hc e)]
      exact ⟨0, rfl⟩
theorem eqr_con (a b : List Pl) (hb : a.length ≤ 1000000) : Con Try.prog 19 [.d (.sl (.st (.pair (.int .i64) (.pair (.int .i64) (.pair (.int .i64) .bool))))) a, .d (.sl (.st (.pair (.int .i64) (.pair (.int .i64) (.pair (.int .i64) .bool))))) b] [.d .bool (decide (a = b))] := by
  refine Ctx.Res.con (C := eqr_C) (ctx_ok (E := []) trivial) ?_ (fn := Try.f19) (by kernel_rfl) (by kernel_rfl)
  refine eqr_s _ _ ?_
  unfold eqr_t
  by_cases hl : a.length = b.length
  · rw [show ((a.length : Int) != (b.length : Int)) = false by simp [hl]]
    exact eqr_loop a b hl hb _ 0 rfl (Nat.zero_le _)
  · rw [show ((a.length : Int) != (b.length : Int)) = true by simp; omega, decide_eq_false (by intro e; exact hl (congrArg List.length e))]
    exact ⟨0, rfl⟩
noncomputable def ctx0 : Ctx := ⟨Try.prog, ft, tys, [], []⟩
set_option maxRecDepth 1000000 in
theorem over_ex : Con Try.prog 54 [SI 100, SI 60, SI 5, .d (.sl (.st (.pair (.int .i64) (.int .i64)))) [(40, 30), (40, 30), (80, 15)]] [.d .bool false] :=
  Ctx.Res.con (C := ctx0) (ctx_ok (E := []) trivial) ⟨300, by kernel_rfl⟩ (fn := Try.f54) (by kernel_rfl) (by kernel_rfl)
def ovf_sp : Spec := { keep := true, run := fun _ args k => match args with
  | [.d (.int .i64) w, .d (.int .i64) h, .d (.int .i64) g, .d (.sl (.st (.pair (.int .i64) (.int .i64)))) l] => match decide (w = 100 ∧ h = 60 ∧ g = 5 ∧ l = [((40 : Int), (30 : Int)), (40, 30), (80, 15)]) with
    | true => k [.d .bool false]
    | false => none
  | _ => none }
theorem ovf_spec : callable Try.prog 54 = true ∧ SpecOk Try.prog 54 ovf_sp ∧ ∀ g, ovf_sp.mut_ = some g → MCon Try.prog 54 g := by
  refine ⟨by kernel_rfl, fun R args k r h => ?_, fun g h => by simp [ovf_sp] at h⟩
  unfold ovf_sp at h
  dsimp only at h
  split at h <;> try (cases h; done)
  split at h <;> try (cases h; done)
  rename_i hd
  obtain ⟨rfl, rfl, rfl, rfl⟩ := of_decide_eq_true hd
  exact ⟨_, h, over_ex⟩
def cne_sp : Spec := { keep := false, run := fun _ args k => match args with
  | [.d (.int .i64) w, .d (.int .i64) h, .d (.int .i64) gap, .d (.sl (.st (.pair (.int .i64) (.int .i64)))) l] => k [RV.d (.sl (.st (.pair (.int .i64) (.pair (.int .i64) (.pair (.int .i64) .bool))))) ((nestF w h gap l).1), RV.d (.sl (.int .i64)) ((nestF w h gap l).2.1), RV.d (.int .i64) ((nestF w h gap l).2.2)]
  | _ => none }
theorem cne_spec : callable Try.prog 16 = true ∧ SpecOk Try.prog 16 cne_sp ∧ ∀ g, cne_sp.mut_ = some g → MCon Try.prog 16 g := by
  refine ⟨by kernel_rfl, fun R args k r h => ?_, fun g h => by simp [cne_sp] at h⟩
  unfold cne_sp at h
  dsimp only at h
  split at h <;> try (cases h; done)
  exact ⟨_, h, cne_con _ _ _ _ ⟩
def rne_sp : Spec := { keep := false, run := fun _ args k => match args with
  | [.d (.int .i64) w, .d (.int .i64) h, .d (.int .i64) gap, .d (.sl (.st (.pair (.int .i64) (.int .i64)))) l] => k [RV.d (.sl (.st (.pair (.int .i64) (.pair (.int .i64) (.pair (.int .i64) .bool))))) ((nestF w h gap l).1), RV.d (.sl (.int .i64)) ((nestF w h gap l).2.1), RV.d (.int .i64) ((nestF w h gap l).2.2)]
  | _ => none }
theorem rne_spec : callable Try.prog 18 = true ∧ SpecOk Try.prog 18 rne_sp ∧ ∀ g, rne_sp.mut_ = some g → MCon Try.prog 18 g := by
  refine ⟨by kernel_rfl, fun R args k r h => ?_, fun g h => by simp [rne_sp] at h⟩
  unfold rne_sp at h
  dsimp only at h
  split at h <;> try (cases h; done)
  exact ⟨_, h, rne_con _ _ _ _ ⟩
def eqi_sp : Spec := { keep := true, run := fun _ args k => match args with
  | [.d (.sl (.int .i64)) a, .d (.sl (.int .i64)) b] => match decide (a.length ≤ 1000000) with
    | true => k [RV.d .bool (decide (a = b))]
    | false => none
  | _ => none }
theorem eqi_spec : callable Try.prog 21 = true ∧ SpecOk Try.prog 21 eqi_sp ∧ ∀ g, eqi_sp.mut_ = some g → MCon Try.prog 21 g := by
  refine ⟨by kernel_rfl, fun R args k r h => ?_, fun g h => by simp [eqi_sp] at h⟩
  unfold eqi_sp at h
  dsimp only at h
  split at h <;> try (cases h; done)
  split at h <;> try (cases h; done)
  rename_i hd
  exact ⟨_, h, eqi_con _ _ (of_decide_eq_true hd)⟩
def eqg_sp : Spec := { keep := true, run := fun _ args k => match args with
  | [.d (.sl (.st (.pair (.int .i64) (.int .i64)))) a, .d (.sl (.st (.pair (.int .i64) (.int .i64)))) b] => match decide (a.length ≤ 1000000) with
    | true => k [RV.d .bool (decide (a = b))]
    | false => none
  | _ => none }
theorem eqg_spec : callable Try.prog 22 = true ∧ SpecOk Try.prog 22 eqg_sp ∧ ∀ g, eqg_sp.mut_ = some g → MCon Try.prog 22 g := by
  refine ⟨by kernel_rfl, fun R args k r h => ?_, fun g h => by simp [eqg_sp] at h⟩
  unfold eqg_sp at h
  dsimp only at h
  split at h <;> try (cases h; done)
  split at h <;> try (cases h; done)
  rename_i hd
  exact ⟨_, h, eqg_con _ _ (of_decide_eq_true hd)⟩
def eqp_sp : Spec := { keep := true, run := fun _ args k => match args with
  | [.d (.sl (.st (.pair (.int .i64) (.pair (.int .i64) (.pair (.int .i64) .bool))))) a, .d (.sl (.st (.pair (.int .i64) (.pair (.int .i64) (.pair (.int .i64) .bool))))) b] => match decide (a.length ≤ 1000000) with
    | true => k [RV.d .bool (decide (a = b))]
    | false => none
  | _ => none }
theorem eqp_spec : callable Try.prog 53 = true ∧ SpecOk Try.prog 53 eqp_sp ∧ ∀ g, eqp_sp.mut_ = some g → MCon Try.prog 53 g := by
  refine ⟨by kernel_rfl, fun R args k r h => ?_, fun g h => by simp [eqp_sp] at h⟩
  unfold eqp_sp at h
  dsimp only at h
  split at h <;> try (cases h; done)
  split at h <;> try (cases h; done)
  rename_i hd
  exact ⟨_, h, eqp_con _ _ (of_decide_eq_true hd)⟩
def eqr_sp : Spec := { keep := true, run := fun _ args k => match args with
  | [.d (.sl (.st (.pair (.int .i64) (.pair (.int .i64) (.pair (.int .i64) .bool))))) a, .d (.sl (.st (.pair (.int .i64) (.pair (.int .i64) (.pair (.int .i64) .bool))))) b] => match decide (a.length ≤ 1000000) with
    | true => k [RV.d .bool (decide (a = b))]
    | false => none
  | _ => none }
theorem eqr_spec : callable Try.prog 19 = true ∧ SpecOk Try.prog 19 eqr_sp ∧ ∀ g, eqr_sp.mut_ = some g → MCon Try.prog 19 g := by
  refine ⟨by kernel_rfl, fun R args k r h => ?_, fun g h => by simp [eqr_sp] at h⟩
  unfold eqr_sp at h
  dsimp only at h
  split at h <;> try (cases h; done)
  split at h <;> try (cases h; done)
  rename_i hd
  exact ⟨_, h, eqr_con _ _ (of_decide_eq_true hd)⟩
def its_sp : Spec := { keep := true, run := fun _ args k => match args with
  | [.d (.sl (.st (.pair (.int .i64) (.int .i64)))) l] => match decide (l.length ≤ 1000) with
    | true => k [RV.new 78 (.st (.pair (.int .i64) (.int .i64))) l]
    | false => none
  | _ => none }
theorem its_spec : callable Try.prog 17 = true ∧ SpecOk Try.prog 17 its_sp ∧ ∀ g, its_sp.mut_ = some g → MCon Try.prog 17 g := by
  refine ⟨by kernel_rfl, fun R args k r h => ?_, fun g h => by simp [its_sp] at h⟩
  unfold its_sp at h
  dsimp only at h
  split at h <;> try (cases h; done)
  split at h <;> try (cases h; done)
  rename_i hd
  exact ⟨_, h, its_con _ (of_decide_eq_true hd)⟩
def pls_sp : Spec := { keep := true, run := fun _ args k => match args with
  | [.d (.sl (.st (.pair (.int .i64) (.pair (.int .i64) (.pair (.int .i64) .bool))))) p] => match decide (p.length ≤ 1000) with
    | true => k [RV.new 52 (.st (.pair (.int .i64) (.pair (.int .i64) (.pair (.int .i64) .bool)))) p]
    | false => none
  | _ => none }
theorem pls_spec : callable Try.prog 24 = true ∧ SpecOk Try.prog 24 pls_sp ∧ ∀ g, pls_sp.mut_ = some g → MCon Try.prog 24 g := by
  refine ⟨by kernel_rfl, fun R args k r h => ?_, fun g h => by simp [pls_sp] at h⟩
  unfold pls_sp at h
  dsimp only at h
  split at h <;> try (cases h; done)
  split at h <;> try (cases h; done)
  rename_i hd
  exact ⟨_, h, pls_con _ (of_decide_eq_true hd)⟩
def bks_sp : Spec := { keep := true, run := fun _ args k => match args with
  | [.d (.sl (.st (.pair (.int .i64) (.pair (.int .i64) (.pair (.int .i64) .bool))))) p] => match decide (p.length ≤ 1000) with
    | true => k [RV.new 39 (.st (.pair (.int .i64) (.pair (.int .i64) (.pair (.int .i64) .bool)))) p]
    | false => none
  | _ => none }
theorem bks_spec : callable Try.prog 20 = true ∧ SpecOk Try.prog 20 bks_sp ∧ ∀ g, bks_sp.mut_ = some g → MCon Try.prog 20 g := by
  refine ⟨by kernel_rfl, fun R args k r h => ?_, fun g h => by simp [bks_sp] at h⟩
  unfold bks_sp at h
  dsimp only at h
  split at h <;> try (cases h; done)
  split at h <;> try (cases h; done)
  rename_i hd
  exact ⟨_, h, bks_con _ (of_decide_eq_true hd)⟩
def env8 : Env := [(16, cne_sp), (53, eqp_sp), (21, eqi_sp), (54, ovf_sp)]
theorem env8_ok : EnvAll Try.prog env8 := ⟨cne_spec, eqp_spec, eqi_spec, ovf_spec, trivial⟩
def awk_nt : NT := []
noncomputable def awk_C : Ctx := ⟨Try.prog, ft, tys, env8, awk_nt⟩
def awk_t (_k : Nat → Cfg → Option (List RV)) : Option (List RV) := match ((nestF (100 : Int) (60 : Int) (5 : Int) ([(40, 30), (40, 30), (20, 45), (80, 15)])).2.2) == 0 with | true => (match decide (((nestF (100 : Int) (60 : Int) (5 : Int) ([(40, 30), (40, 30), (20, 45), (80, 15)])).1).length ≤ 1000000) with | true => (match decide (((nestF (100 : Int) (60 : Int) (5 : Int) ([(40, 30), (40, 30), (20, 45), (80, 15)])).1) = ([(0, (5, (5, false))), (1, (50, (5, false))), (3, (5, (40, false)))])) with | true => (match decide (((nestF (100 : Int) (60 : Int) (5 : Int) ([(40, 30), (40, 30), (20, 45), (80, 15)])).2.1).length ≤ 1000000) with | true => (match decide (((nestF (100 : Int) (60 : Int) (5 : Int) ([(40, 30), (40, 30), (20, 45), (80, 15)])).2.1) = ([2])) with | true => (match decide ((0 : Int) ≤ 0 ∧ 0 ≤ 2 ∧ 2 ≤ 2 ∧ 2 ≤ (([(40, 30), (40, 30), (20, 45), (80, 15)]).length : Int)) with | true => (match getI ([(40, 30), (40, 30), (20, 45), (80, 15)]) 3 with | some x1 => (match decide (((([(40, 30), (40, 30), (20, 45), (80, 15)]).take (2 : Int).toNat).drop (0 : Int).toNat) ≠ [] ∧ ([(x1.1, x1.2)]) ≠ [] ∧ (((([(40, 30), (40, 30), (20, 45), (80, 15)]).take (2 : Int).toNat).drop (0 : Int).toNat).length + ([(x1.1, x1.2)]).length) * 16 ≤ 140737488355328 ∧ ((([(40, 30), (40, 30), (20, 45), (80, 15)]).take (2 : Int).toNat).drop (0 : Int).toNat).length + ([(x1.1, x1.2)]).length ≤ 140737488355328) with | true => (match decide ((100 : Int) = 100 ∧ (60 : Int) = 60 ∧ (5 : Int) = 5 ∧ ((([(40, 30), (40, 30), (20, 45), (80, 15)]).take (2 : Int).toNat).drop (0 : Int).toNat) ++ ([(x1.1, x1.2)]) = [((40 : Int), (30 : Int)), (40, 30), (80, 15)]) with | true => some [RV.d .bool (!false)] | false => none) | false => none) | none => none) | false => none) | false => some [RV.d .bool false]) | false => none) | false => some [RV.d .bool false]) | false => none) | false => some [RV.d .bool false]
theorem awk_eq (k : Nat → Cfg → Option (List RV)) : go Try.prog ft tys env8 awk_nt k 4000 (start 14 []) (.node 0) = awk_t k := by kernel_rfl
theorem awk_s {rX : List RV} (hX : ∃ nX, awk_t (awk_C.k nX) = some rX) : awk_C.Res 14 [] rX := by
  obtain ⟨nX, hX⟩ := hX
  exact ⟨nX, (awk_eq _).trans hX⟩
set_option maxRecDepth 1000000 in
theorem nest_ex : nestF 100 60 5 [(40, 30), (40, 30), (20, 45), (80, 15)] = ([(0, (5, (5, false))), (1, (50, (5, false))), (3, (5, (40, false)))], [2], 0) := by kernel_rfl
theorem awk_con : Con Try.prog 14 [] [.d .bool true] := by
  refine Ctx.Res.con (C := awk_C) (ctx_ok env8_ok) ?_ (fn := Try.f14) (by kernel_rfl) (by kernel_rfl)
  refine awk_s ⟨0, ?_⟩
  unfold awk_t
  simp only [nest_ex]
  rfl
end Go.Proofs.Ytfkidjkpgliffaa

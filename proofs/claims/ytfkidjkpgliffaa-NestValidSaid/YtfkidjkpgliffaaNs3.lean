/- nest.Spots and the reference's. -/
import Derived.Test.YtfkidjkpgliffaaNs2
import Derived.Test.YtfkidjkpgliffaaCompC
namespace Go.Proofs.Ytfkidjkpgliffaa
open Go.RowKit
def spSortL : Spec := ⟨true, fun _ _ _ => none, some ⟨false, isort⟩⟩
theorem sortL_spec : callable Try.prog 59 = true ∧ SpecOk Try.prog 59 spSortL ∧ ∀ g, spSortL.mut_ = some g → MCon Try.prog 59 g :=
  ⟨by kernel_rfl, fun _ _ _ _ h => by simp [spSortL] at h, fun g h => by simp only [spSortL, Option.some.injEq] at h; subst h; exact mconL⟩
def spComp : Spec := ⟨true, fun _ _ _ => none, some ⟨true, Lib.compact⟩⟩
theorem comp_spec : callable Try.prog 60 = true ∧ SpecOk Try.prog 60 spComp ∧ ∀ g, spComp.mut_ = some g → MCon Try.prog 60 g :=
  ⟨by kernel_rfl, fun _ _ _ _ h => by simp [spComp] at h, fun g h => by simp only [spComp, Option.some.injEq] at h; subst h; exact mconC⟩
def putF : List Int → Int → List Int
  | [], n => [n]
  | x :: l, n => bif decide (x < n) then x :: putF l n else bif x == n then x :: l else n :: x :: l
theorem putF_mem (n x : Int) : ∀ l, x ∈ putF l n ↔ x = n ∨ x ∈ l
  | [] => by simp [putF]
  | y :: l => by
    simp only [putF]
    by_cases h : y < n
    · rw [decide_eq_true h, cond_true, List.mem_cons, putF_mem n x l, List.mem_cons]
      constructor
      · rintro (h | h | h)
        · exact .inr (.inl h)
        · exact .inl h
        · exact .inr (.inr h)
      · rintro (h | h | h)
        · exact .inr (.inl h)
        · exact .inl h
        · exact .inr (.inr h)
    · rw [decide_eq_false h, cond_false]
      by_cases e : y = n
      · subst e; simp
      · rw [show (y == n) = false by simpa using e, cond_false, List.mem_cons]
theorem putF_asc (n : Int) : ∀ l : List Int, l.Pairwise (· < ·) → (putF l n).Pairwise (· < ·)
  | [], _ => by simp [putF]
  | y :: l, h => by
    rw [List.pairwise_cons] at h
    simp only [putF]
    by_cases h1 : y < n
    · rw [decide_eq_true h1, cond_true, List.pairwise_cons]
      refine ⟨fun a ha => ?_, putF_asc n l h.2⟩
      rcases (putF_mem n a l).1 ha with rfl | ha
      · exact h1
      · exact h.1 a ha
    · rw [decide_eq_false h1, cond_false]
      by_cases e : y = n
      · subst e; rw [show (y == y) = true by simp, cond_true]; exact List.pairwise_cons.2 h
      · rw [show (y == n) = false by simpa using e, cond_false, List.pairwise_cons]
        refine ⟨fun a ha => ?_, List.pairwise_cons.2 h⟩
        rcases List.mem_cons.1 ha with rfl | ha
        · omega
        · have := h.1 a ha; omega
theorem putF_len (n : Int) : ∀ l : List Int, (putF l n).length ≤ l.length + 1
  | [] => by simp [putF]
  | y :: l => by
    simp only [putF]
    have := putF_len n l
    cases decide (y < n) <;> cases (y == n) <;> simp <;> omega
theorem fold_put (ns : List Int) : ∀ l : List Int, l.Pairwise (· < ·) → (ns.foldl putF l).Pairwise (· < ·) ∧ ∀ x, x ∈ ns.foldl putF l ↔ x ∈ l ∨ x ∈ ns := by
  induction ns with
  | nil => intro l h; exact ⟨h, by simp⟩
  | cons n ns ih =>
    intro l h
    obtain ⟨h1, h2⟩ := ih _ (putF_asc n l h)
    refine ⟨h1, fun x => ?_⟩
    rw [List.foldl_cons, h2 x, putF_mem, List.mem_cons]
    constructor
    · rintro ((h | h) | h)
      · exact .inr (.inl h)
      · exact .inl h
      · exact .inr (.inr h)
    · rintro (h | h | h)
      · exact .inl (.inr h)
      · exact .inl (.inl h)
      · exact .inr h
theorem comp_fold (gap : Int) (ns : List Int) : Lib.compact (isort (gap :: ns)) = ns.foldl putF [gap] := by
  obtain ⟨h1, h2⟩ := compact_sort (gap :: ns)
  obtain ⟨h3, h4⟩ := fold_put ns [gap] (by simp)
  exact strict_unique h1 h3 fun x => by rw [h2, h4]; simp
theorem fold_len : ∀ (ns l : List Int), (ns.foldl putF l).length ≤ l.length + ns.length
  | [], l => by simp
  | n :: ns, l => by
    have := fold_len ns (putF l n)
    have := putF_len n l
    simp only [List.foldl_cons, List.length_cons]
    omega
def exX (gap : Int) (l : List It) (x : Pl) : Int := x.2.1 + (sizeF l x).1 + gap
def exY (gap : Int) (l : List It) (x : Pl) : Int := x.2.2.1 + (sizeF l x).2 + gap
def xsF (gap : Int) (l : List It) (p : List Pl) : List Int := (p.map (exX gap l)).foldl putF [gap]
def ysF (gap : Int) (l : List It) (p : List Pl) : List Int := (p.map (exY gap l)).foldl putF [gap]
def gridF (xs ys : List Int) : List It := ys.flatMap fun y => xs.map fun x => (x, y)
def spotsF (w h gap : Int) (l : List It) (p : List Pl) : List It := bif validF w h gap l p then gridF (xsF gap l p) (ysF gap l p) else []
theorem xs_len (gap : Int) (l : List It) (p : List Pl) : (xsF gap l p).length ≤ p.length + 1 := by have := fold_len (p.map (exX gap l)) [gap]; simp at this; unfold xsF; omega
theorem ys_len (gap : Int) (l : List It) (p : List Pl) : (ysF gap l p).length ≤ p.length + 1 := by have := fold_len (p.map (exY gap l)) [gap]; simp at this; unfold ysF; omega
theorem grid_len (xs : List Int) : ∀ ys : List Int, (gridF xs ys).length = ys.length * xs.length
  | [] => by simp [gridF]
  | y :: ys => by
    have := grid_len xs ys
    unfold gridF at this ⊢
    simp only [List.flatMap_cons, List.length_append, List.length_map, this, List.length_cons, Nat.succ_mul]
    omega
theorem grid_snoc (xs : List Int) (ys : List Int) (y : Int) : gridF xs (ys ++ [y]) = gridF xs ys ++ xs.map fun x => (x, y) := by simp [gridF]
theorem okL_in {w h gap : Int} {l : List It} (a : Adm w h gap l) : ∀ (p pre : List Pl), okL w h gap l pre p = true → ∀ y ∈ p, plIn l y
  | [], _, _, y, hy => by simp at hy
  | x :: p, pre, h, y, hy => by
    simp only [okL, Bool.and_eq_true] at h
    rcases List.mem_cons.1 hy with rfl | hy
    · have h1 := h.1
      unfold okAt at h1
      simp only [Bool.and_eq_true, decide_eq_true_eq] at h1
      exact on_in a ⟨h1.1.1.1, h1.1.1.2⟩ h1.1.2
    · exact okL_in a p _ h.2 y hy
theorem valid_in {w h gap : Int} {l : List It} {p : List Pl} (hv : validF w h gap l p = true) : Adm w h gap l ∧ ∀ y ∈ p, plIn l y := by
  unfold validF at hv
  rw [Bool.and_eq_true] at hv
  have a := adm_of hv.1
  exact ⟨a, okL_in a p [] hv.2⟩
theorem ex_bd {w h gap : Int} {l : List It} (a : Adm w h gap l) {x : Pl} (hx : plIn l x) : IntKind.i64.wrap (IntKind.i64.wrap (x.2.1 + (sizeF l x).1) + gap) = exX gap l x ∧ IntKind.i64.wrap (IntKind.i64.wrap (x.2.2.1 + (sizeF l x).2) + gap) = exY gap l x := by
  have bd := size_bd a.l hx.1
  obtain ⟨_, x1, x2, x3, x4⟩ := hx
  obtain ⟨a1, a2, a3, a4, a5, a6, a7, a8⟩ := a
  unfold exX exY
  rw [wrap64 (x := x.2.1 + _) (by omega) (by omega), wrap64 (x := x.2.2.1 + _) (by omega) (by omega), wrap64 (by omega) (by omega), wrap64 (by omega) (by omega)]
  exact ⟨rfl, rfl⟩
def put_nt : NT := [((62, 6), { keep := [0, 1, 5], hl := 0 })]
noncomputable def put_C : Ctx := ⟨Try.prog, ft, tys, [], put_nt⟩
def put_h6 (l : List Int) (n : Int) (s5 : Int) : Cfg := ⟨62, [.blk 0, .seq 15], [(0, .d (.sl (.int .i64)) l), (1, SI n), (5, SI s5)], [], 0, []⟩
def put_t (k : Nat → Cfg → Option (List RV)) (l : List Int) (n : Int) : Option (List RV) := k 6 (put_h6 l n 0)
theorem put_eq (k : Nat → Cfg → Option (List RV)) (l : List Int) (n : Int) : go Try.prog ft tys [] put_nt k 4000 (start 62 [.d (.sl (.int .i64)) l, SI n]) (.node 0) = put_t k l n := by kernel_rfl
theorem put_s (l : List Int) (n : Int) {rX : List RV} (hX : ∃ nX, put_t (put_C.k nX) l n = some rX) : put_C.Res 62 [.d (.sl (.int .i64)) l, SI n] rX := by
  obtain ⟨nX, hX⟩ := hX
  exact ⟨nX, (put_eq _ l n).trans hX⟩
noncomputable def put_h6_t (k : Nat → Cfg → Option (List RV)) (l : List Int) (n : Int) (s5 : Int) : Option (List RV) := match decide (s5 < (l.length : Int)) with | true => (match getI l s5 with | some x1 => (match decide (x1 < n) with | true => k 6 (put_h6 l n (IntKind.i64.wrap (s5 + 1))) | false => (match decide (s5 < (l.length : Int)) with | true => (match getI l s5 with | some x2 => (match x2 == n with | true => some [RV.d (.sl (.int .i64)) l] | false => (match decide ((0 : Int) ≤ 0 ∧ 0 ≤ s5 ∧ s5 ≤ (l.length : Int)) with | true => (match decide ((0 : Int) ≤ s5 ∧ s5 ≤ (l.length : Int) ∧ (l.length : Int) ≤ (l.length : Int)) with | true => dup (.b (.b .l .l) .l) (match decide ((([] : List Int).length + ((l.take (s5).toNat).drop (0 : Int).toNat).length) * 8 ≤ 140737488355328 ∧ ([] : List Int).length + ((l.take (s5).toNat).drop (0 : Int).toNat).length ≤ 140737488355328) with | true => (match decide (((([] : List Int) ++ ((l.take (s5).toNat).drop (0 : Int).toNat)).length + ([n]).length) * 8 ≤ 140737488355328 ∧ (([] : List Int) ++ ((l.take (s5).toNat).drop (0 : Int).toNat)).length + ([n]).length ≤ 140737488355328) with | true => (match decide ((((([] : List Int) ++ ((l.take (s5).toNat).drop (0 : Int).toNat)) ++ ([n])).length + ((l.take ((l.length : Int)).toNat).drop (s5 : Int).toNat).length) * 8 ≤ 140737488355328 ∧ ((([] : List Int) ++ ((l.take (s5).toNat).drop (0 : Int).toNat)) ++ ([n])).length + ((l.take ((l.length : Int)).toNat).drop (s5 : Int).toNat).length ≤ 140737488355328) with | true => some [RV.new 2 (.int .i64) (((([] : List Int) ++ ((l.take (s5).toNat).drop (0 : Int).toNat)) ++ ([n])) ++ ((l.take ((l.length : Int)).toNat).drop (s5 : Int).toNat))] | false => none) | false => none) | false => none) | false => none) | false => none)) | none => none) | false => (match decide ((0 : Int) ≤ 0 ∧ 0 ≤ s5 ∧ s5 ≤ (l.length : Int)) with | true => (match decide ((0 : Int) ≤ s5 ∧ s5 ≤ (l.length : Int) ∧ (l.length : Int) ≤ (l.length : Int)) with | true => dup (.b (.b .l .l) .l) (match decide ((([] : List Int).length + ((l.take (s5).toNat).drop (0 : Int).toNat).length) * 8 ≤ 140737488355328 ∧ ([] : List Int).length + ((l.take (s5).toNat).drop (0 : Int).toNat).length ≤ 140737488355328) with | true => (match decide (((([] : List Int) ++ ((l.take (s5).toNat).drop (0 : Int).toNat)).length + ([n]).length) * 8 ≤ 140737488355328 ∧ (([] : List Int) ++ ((l.take (s5).toNat).drop (0 : Int).toNat)).length + ([n]).length ≤ 140737488355328) with | true => (match decide ((((([] : List Int) ++ ((l.take (s5).toNat).drop (0 : Int).toNat)) ++ ([n])).length + ((l.take ((l.length : Int)).toNat).drop (s5 : Int).toNat).length) * 8 ≤ 140737488355328 ∧ ((([] : List Int) ++ ((l.take (s5).toNat).drop (0 : Int).toNat)) ++ ([n])).length + ((l.take ((l.length : Int)).toNat).drop (s5 : Int).toNat).length ≤ 140737488355328) with | true => some [RV.new 2 (.int .i64) (((([] : List Int) ++ ((l.take (s5).toNat).drop (0 : Int).toNat)) ++ ([n])) ++ ((l.take ((l.length : Int)).toNat).drop (s5 : Int).toNat))] | false => none) | false => none) | false => none) | false => none) | false => none))) | none => none) | false => (match decide (s5 < (l.length : Int)) with | true => (match getI l s5 with | some x3 => (match x3 == n with | true => some [RV.d (.sl (.int .i64)) l] | false => (match decide ((0 : Int) ≤ 0 ∧ 0 ≤ s5 ∧ s5 ≤ (l.length : Int)) with | true => (match decide ((0 : Int) ≤ s5 ∧ s5 ≤ (l.length : Int) ∧ (l.length : Int) ≤ (l.length : Int)) with | true => dup (.b (.b .l .l) .l) (match decide ((([] : List Int).length + ((l.take (s5).toNat).drop (0 : Int).toNat).length) * 8 ≤ 140737488355328 ∧ ([] : List Int).length + ((l.take (s5).toNat).drop (0 : Int).toNat).length ≤ 140737488355328) with | true => (match decide (((([] : List Int) ++ ((l.take (s5).toNat).drop (0 : Int).toNat)).length + ([n]).length) * 8 ≤ 140737488355328 ∧ (([] : List Int) ++ ((l.take (s5).toNat).drop (0 : Int).toNat)).length + ([n]).length ≤ 140737488355328) with | true => (match decide ((((([] : List Int) ++ ((l.take (s5).toNat).drop (0 : Int).toNat)) ++ ([n])).length + ((l.take ((l.length : Int)).toNat).drop (s5 : Int).toNat).length) * 8 ≤ 140737488355328 ∧ ((([] : List Int) ++ ((l.take (s5).toNat).drop (0 : Int).toNat)) ++ ([n])).length + ((l.take ((l.length : Int)).toNat).drop (s5 : Int).toNat).length ≤ 140737488355328) with | true => some [RV.new 2 (.int .i64) (((([] : List Int) ++ ((l.take (s5).toNat).drop (0 : Int).toNat)) ++ ([n])) ++ ((l.take ((l.length : Int)).toNat).drop (s5 : Int).toNat))] | false => none) | false => none) | false => none) | false => none) | false => none)) | none => none) | false => (match decide ((0 : Int) ≤ 0 ∧ 0 ≤ s5 ∧ s5 ≤ (l.length : Int)) with | true => (match decide ((0 : Int) ≤ s5 ∧ s5 ≤ (l.length : Int) ∧ (l.length : Int) ≤ (l.length : Int)) with | true => dup (.b (.b .l .l) .l) (match decide ((([] : List Int).length + ((l.take (s5).toNat).drop (0 : Int).toNat).length) * 8 ≤ 140737488355328 ∧ ([] : List Int).length + ((l.take (s5).toNat).drop (0 : Int).toNat).length ≤ 140737488355328) with | true => (match decide (((([] : List Int) ++ ((l.take (s5).toNat).drop (0 : Int).toNat)).length + ([n]).length) * 8 ≤ 140737488355328 ∧ (([] : List Int) ++ ((l.take (s5).toNat).drop (0 : Int).toNat)).length + ([n]).length ≤ 140737488355328) with | true => (match decide ((((([] : List Int) ++ ((l.take (s5).toNat).drop (0 : Int).toNat)) ++ ([n])).length + ((l.take ((l.length : Int)).toNat).drop (s5 : Int).toNat).length) * 8 ≤ 140737488355328 ∧ ((([] : List Int) ++ ((l.take (s5).toNat).drop (0 : Int).toNat)) ++ ([n])).length + ((l.take ((l.length : Int)).toNat).drop (s5 : Int).toNat).length ≤ 140737488355328) with | true => some [RV.new 2 (.int .i64) (((([] : List Int) ++ ((l.take (s5).toNat).drop (0 : Int).toNat)) ++ ([n])) ++ ((l.take ((l.length : Int)).toNat).drop (s5 : Int).toNat))] | false => none) | false => none) | false => none) | false => none) | false => none))
theorem put_h6_eq (k : Nat → Cfg → Option (List RV)) (l : List Int) (n : Int) (s5 : Int) : go Try.prog ft tys [] put_nt k 4000 { put_h6 l n s5 with K := .lp 6 :: (put_h6 l n s5).K } (.node 7) = put_h6_t k l n s5 := by kernel_rfl
theorem put_h6_s (l : List Int) (n : Int) (s5 : Int) {rX : List RV} (hX : ∃ nX, put_h6_t (put_C.k nX) l n s5 = some rX) : put_C.Runs 6 (put_h6 l n s5) rX := by
  obtain ⟨nX, hX⟩ := hX
  exact ⟨nX + 1, (put_h6_eq _ l n s5).trans hX⟩
def cva_sp : Spec := { keep := true, run := fun _ args k => match args with
  | [.d (.int .i64) w, .d (.int .i64) h, .d (.int .i64) gap, .d (.sl (.st (.pair (.int .i64) (.int .i64)))) l, .d (.sl (.st (.pair (.int .i64) (.pair (.int .i64) (.pair (.int .i64) .bool))))) p] => match decide (vP p) with
    | true => k [RV.d .bool (validF w h gap l p)]
    | false => none
  | _ => none }
theorem cva_spec : callable Try.prog 26 = true ∧ SpecOk Try.prog 26 cva_sp ∧ ∀ g, cva_sp.mut_ = some g → MCon Try.prog 26 g := by
  refine ⟨by kernel_rfl, fun R args k r h => ?_, fun g h => by simp [cva_sp] at h⟩
  unfold cva_sp at h
  dsimp only at h
  split at h <;> try (cases h; done)
  split at h <;> try (cases h; done)
  rename_i hd
  exact ⟨_, h, cva_con _ _ _ _ _ (of_decide_eq_true hd)⟩
def rva_sp : Spec := { keep := true, run := fun _ args k => match args with
  | [.d (.int .i64) w, .d (.int .i64) h, .d (.int .i64) gap, .d (.sl (.st (.pair (.int .i64) (.int .i64)))) l, .d (.sl (.st (.pair (.int .i64) (.pair (.int .i64) (.pair (.int .i64) .bool))))) p] => match decide (vP p) with
    | true => k [RV.d .bool (validF w h gap l p)]
    | false => none
  | _ => none }
theorem rva_spec : callable Try.prog 27 = true ∧ SpecOk Try.prog 27 rva_sp ∧ ∀ g, rva_sp.mut_ = some g → MCon Try.prog 27 g := by
  refine ⟨by kernel_rfl, fun R args k r h => ?_, fun g h => by simp [rva_sp] at h⟩
  unfold rva_sp at h
  dsimp only at h
  split at h <;> try (cases h; done)
  split at h <;> try (cases h; done)
  rename_i hd
  exact ⟨_, h, rva_con _ _ _ _ _ (of_decide_eq_true hd)⟩
def env3 : Env := [(58, csz_sp), (26, cva_sp), (59, spSortL), (60, spComp)]
theorem env3_ok : EnvAll Try.prog env3 := ⟨csz_spec, cva_spec, sortL_spec, comp_spec, trivial⟩
def csp_nt : NT := [((23, 16), { keep := [2, 3, 11, 12, 33, 34, 35], hl := 2 }), ((23, 43), { keep := [11, 17, 72, 73, 74], own := [(17, 45, .st (.pair (.int .i64) (.int .i64)))], hl := 3 }), ((23, 57), { keep := [11, 17, 19, 72, 73, 74, 78, 79, 80], hl := 3 })]
noncomputable def csp_C : Ctx := ⟨Try.prog, ft, tys, env3, csp_nt⟩
def csp_h16 (gap : Int) (l : List (Int × Int)) (p : List (Int × Int × Int × Bool)) (s35 : Int) (r0 : List Int) (r1 : List Int) : Cfg := ⟨23, [.blk 0, .seq 31], [(2, SI gap), (3, .d (.sl (.st (.pair (.int .i64) (.int .i64)))) l), (11, .own 0), (12, .own 1), (33, .d (.sl (.st (.pair (.int .i64) (.pair (.int .i64) (.pair (.int .i64) .bool))))) p), (34, SI (p.length : Int)), (35, SI s35)], [.row 2 (.int .i64) r0, .row 2 (.int .i64) r1], 0, []⟩
def csp_h43 (r0 : List Int) (r1 : List Int) (s74 : Int) (r2 : List (Int × Int)) : Cfg := ⟨23, [.blk 2, .seq 71], [(11, .own 0), (17, .own 2), (72, .own 1), (73, SI ((Lib.compact (isort r1)).length : Int)), (74, SI s74)], [.row 2 (.int .i64) (Lib.compact (isort r0)), .row 2 (.int .i64) (Lib.compact (isort r1)), .row 45 (.st (.pair (.int .i64) (.int .i64))) r2], 0, []⟩
def csp_h57 (r0 : List Int) (r1 : List Int) (s74 : Int) (x2 : Int) (s80 : Int) (r2 : List (Int × Int)) : Cfg := ⟨23, [.blk 4, .blk 3, .seq 70, .lp 43, .blk 2, .seq 71], [(11, .own 0), (17, .own 2), (19, SI x2), (72, .own 1), (73, SI ((Lib.compact (isort r1)).length : Int)), (74, SI s74), (78, .own 0), (79, SI ((Lib.compact (isort r0)).length : Int)), (80, SI s80)], [.row 2 (.int .i64) (Lib.compact (isort r0)), .row 2 (.int .i64) (Lib.compact (isort r1)), .row 45 (.st (.pair (.int .i64) (.int .i64))) r2], 0, []⟩
def csp_t (k : Nat → Cfg → Option (List RV)) (w : Int) (h : Int) (gap : Int) (l : List (Int × Int)) (p : List (Int × Int × Int × Bool)) : Option (List RV) := match decide (vP p) with | true => (match !(validF w h gap l p) with | true => some [RV.new 45 (.st (.pair (.int .i64) (.int .i64))) []] | false => k 16 (csp_h16 gap l p 0 ([gap]) ([gap]))) | false => none
theorem csp_eq (k : Nat → Cfg → Option (List RV)) (w : Int) (h : Int) (gap : Int) (l : List (Int × Int)) (p : List (Int × Int × Int × Bool)) : go Try.prog ft tys env3 csp_nt k 4000 (start 23 [SI w, SI h, SI gap, .d (.sl (.st (.pair (.int .i64) (.int .i64)))) l, .d (.sl (.st (.pair (.int .i64) (.pair (.int .i64) (.pair (.int .i64) .bool))))) p]) (.node 0) = csp_t k w h gap l p := by kernel_rfl
theorem csp_s (w : Int) (h : Int) (gap : Int) (l : List (Int × Int)) (p : List (Int × Int × Int × Bool)) {rX : List RV} (hX : ∃ nX, csp_t (csp_C.k nX) w h gap l p = some rX) : csp_C.Res 23 [SI w, SI h, SI gap, .d (.sl (.st (.pair (.int .i64) (.int .i64)))) l, .d (.sl (.st (.pair (.int .i64) (.pair (.int .i64) (.pair (.int .i64) .bool))))) p] rX := by
  obtain ⟨nX, hX⟩ := hX
  exact ⟨nX, (csp_eq _ w h gap l p).trans hX⟩
noncomputable def csp_h16_t (k : Nat → Cfg → Option (List RV)) (gap : Int) (l : List (Int × Int)) (p : List (Int × Int × Int × Bool)) (s35 : Int) (r0 : List Int) (r1 : List Int) : Option (List RV) := match decide (s35 < (p.length : Int)) with | true => (match getI p s35 with | some x1 => (match decide (sizeP l (x1.1, (x1.2.1, (x1.2.2.1, x1.2.2.2)))) with | true => dup (.b (.b .l .l) .l) (match decide ((r0.length + ([IntKind.i64.wrap ((IntKind.i64.wrap (x1.2.1 + ((sizeF l (x1.1, (x1.2.1, (x1.2.2.1, x1.2.2.2)))).1))) + gap)]).length) * 8 ≤ 140737488355328 ∧ r0.length + ([IntKind.i64.wrap ((IntKind.i64.wrap (x1.2.1 + ((sizeF l (x1.1, (x1.2.1, (x1.2.2.1, x1.2.2.2)))).1))) + gap)]).length ≤ 140737488355328) with | true => (match decide ((r1.length + ([IntKind.i64.wrap ((IntKind.i64.wrap (x1.2.2.1 + ((sizeF l (x1.1, (x1.2.1, (x1.2.2.1, x1.2.2.2)))).2))) + gap)]).length) * 8 ≤ 140737488355328 ∧ r1.length + ([IntKind.i64.wrap ((IntKind.i64.wrap (x1.2.2.1 + ((sizeF l (x1.1, (x1.2.1, (x1.2.2.1, x1.2.2.2)))).2))) + gap)]).length ≤ 140737488355328) with | true => k 16 (csp_h16 gap l p (IntKind.i64.wrap (s35 + 1)) (r0 ++ ([IntKind.i64.wrap ((IntKind.i64.wrap (x1.2.1 + ((sizeF l (x1.1, (x1.2.1, (x1.2.2.1, x1.2.2.2)))).1))) + gap)])) (r1 ++ ([IntKind.i64.wrap ((IntKind.i64.wrap (x1.2.2.1 + ((sizeF l (x1.1, (x1.2.1, (x1.2.2.1, x1.2.2.2)))).2))) + gap)]))) | false => none) | false => none) | false => none) | none => none) | false => (match decide (r0.length ≤ 140737488355328) with | true => (match decide (r1.length ≤ 140737488355328) with | true => (match decide ((isort r0).length ≤ 140737488355328) with | true => (match decide ((isort r1).length ≤ 140737488355328) with | true => k 43 (csp_h43 r0 r1 0 ([])) | false => none) | false => none) | false => none) | false => none)
theorem csp_h16_eq (k : Nat → Cfg → Option (List RV)) (gap : Int) (l : List (Int × Int)) (p : List (Int × Int × Int × Bool)) (s35 : Int) (r0 : List Int) (r1 : List Int) : go Try.prog ft tys env3 csp_nt k 4000 { csp_h16 gap l p s35 r0 r1 with K := .lp 16 :: (csp_h16 gap l p s35 r0 r1).K } (.node 17) = csp_h16_t k gap l p s35 r0 r1 := by kernel_rfl
theorem csp_h16_s (gap : Int) (l : List (Int × Int)) (p : List (Int × Int × Int × Bool)) (s35 : Int) (r0 : List Int) (r1 : List Int) {rX : List RV} (hX : ∃ nX, csp_h16_t (csp_C.k nX) gap l p s35 r0 r1 = some rX) : csp_C.Runs 16 (csp_h16 gap l p s35 r0 r1) rX := by
  obtain ⟨nX, hX⟩ := hX
  exact ⟨nX + 1, (csp_h16_eq _ gap l p s35 r0 r1).trans hX⟩
def csp_h43_t (k : Nat → Cfg → Option (List RV)) (r0 : List Int) (r1 : List Int) (s74 : Int) (r2 : List (Int × Int)) : Option (List RV) := match decide (s74 < ((Lib.compact (isort r1)).length : Int)) with | true => (match getI (Lib.compact (isort r1)) s74 with | some _ => (match true, (Lib.compact (isort r1))[(s74).toNat]? with | true, some x2 => k 57 (csp_h57 r0 r1 s74 x2 0 r2) | _, _ => none) | none => none) | false => some [RV.new 45 (.st (.pair (.int .i64) (.int .i64))) r2]
theorem csp_h43_eq (k : Nat → Cfg → Option (List RV)) (r0 : List Int) (r1 : List Int) (s74 : Int) (r2 : List (Int × Int)) : go Try.prog ft tys env3 csp_nt k 4000 { csp_h43 r0 r1 s74 r2 with K := .lp 43 :: (csp_h43 r0 r1 s74 r2).K } (.node 44) = csp_h43_t k r0 r1 s74 r2 := by kernel_rfl
theorem csp_h43_s (r0 : List Int) (r1 : List Int) (s74 : Int) (r2 : List (Int × Int)) {rX : List RV} (hX : ∃ nX, csp_h43_t (csp_C.k nX) r0 r1 s74 r2 = some rX) : csp_C.Runs 43 (csp_h43 r0 r1 s74 r2) rX := by
  obtain ⟨nX, hX⟩ := hX
  exact ⟨nX + 1, (csp_h43_eq _ r0 r1 s74 r2).trans hX⟩
def csp_h57_t (k : Nat → Cfg → Option (List RV)) (r0 : List Int) (r1 : List Int) (s74 : Int) (x2 : Int) (s80 : Int) (r2 : List (Int × Int)) : Option (List RV) := match decide (s80 < ((Lib.compact (isort r0)).length : Int)) with | true => (match getI (Lib.compact (isort r0)) s80 with | some _ => (match true, (Lib.compact (isort r0))[(s80).toNat]? with | true, some x3 => (match decide ((r2.length + ([(x3, x2)]).length) * 16 ≤ 140737488355328 ∧ r2.length + ([(x3, x2)]).length ≤ 140737488355328) with | true => k 57 (csp_h57 r0 r1 s74 x2 (IntKind.i64.wrap (s80 + 1)) (r2 ++ ([(x3, x2)]))) | false => none) | _, _ => none) | none => none) | false => k 43 (csp_h43 r0 r1 (IntKind.i64.wrap (s74 + 1)) r2)
theorem csp_h57_eq (k : Nat → Cfg → Option (List RV)) (r0 : List Int) (r1 : List Int) (s74 : Int) (x2 : Int) (s80 : Int) (r2 : List (Int × Int)) : go Try.prog ft tys env3 csp_nt k 4000 { csp_h57 r0 r1 s74 x2 s80 r2 with K := .lp 57 :: (csp_h57 r0 r1 s74 x2 s80 r2).K } (.node 58) = csp_h57_t k r0 r1 s74 x2 s80 r2 := by kernel_rfl
theorem csp_h57_s (r0 : List Int) (r1 : List Int) (s74 : Int) (x2 : Int) (s80 : Int) (r2 : List (Int × Int)) {rX : List RV} (hX : ∃ nX, csp_h57_t (csp_C.k nX) r0 r1 s74 x2 s80 r2 = some rX) : csp_C.Runs 57 (csp_h57 r0 r1 s74 x2 s80 r2) rX := by
  obtain ⟨nX, hX⟩ := hX
  exact ⟨nX + 1, (csp_h57_eq _ r0 r1 s74 x2 s80 r2).trans hX⟩
/-- The reference's put. -/
def putR (l : List Int) (n : Int) : List RV := bif decide (n ∈ l) then [.d (.sl (.int .i64)) l] else [.new 2 (.int .i64) (putF l n)]
theorem putF_split {l : List Int} (n : Int) (hl : l.Pairwise (· < ·)) : ∀ (k : Nat), k ≤ l.length → (∀ x ∈ l.take k, x < n) → putF l n = l.take k ++ putF (l.drop k) n
  | 0, _, _ => rfl
  | k + 1, hk, hx => by
    cases l with
    | nil => simp at hk
    | cons y l =>
      have hy : y < n := hx y (by simp)
      simp only [putF, decide_eq_true hy, cond_true, List.take_succ_cons, List.drop_succ_cons, List.cons_append]
      rw [putF_split n (List.pairwise_cons.1 hl).2 k (by simpa using hk) fun x h => hx x (by simp [h])]
theorem put_end (l : List Int) (n : Int) (hb : l.length ≤ 1000000) (k : Nat) (hk : k ≤ l.length) (hlt : ∀ x ∈ l.take k, x < n) (hgt : ∀ x ∈ l.drop k, n < x) (hl : l.Pairwise (· < ·)) : (((([] ++ (l.take (k : Int).toNat).drop (0 : Int).toNat) ++ [n]) ++ (l.take (l.length : Int).toNat).drop (k : Int).toNat) : List Int) = putF l n ∧ n ∉ l := by
  constructor
  · rw [putF_split n hl k hk hlt, toNat_nat, toNat_nat, List.take_of_length_le (Nat.le_refl _)]
    cases hd : l.drop k with
    | nil => simp [putF]
    | cons y m =>
      have := hgt y (by rw [hd]; simp)
      simp only [putF]
      rw [decide_eq_false (by omega), show (y == n) = false by simp; omega]
      simp
  · intro hm
    rw [← List.take_append_drop k l, List.mem_append] at hm
    rcases hm with hm | hm
    · have := hlt n hm; omega
    · have := hgt n hm; omega
theorem put_loop (l : List Int) (n : Int) (hb : l.length ≤ 1000000) (hl : l.Pairwise (· < ·)) : ∀ d k, l.length - k = d → k ≤ l.length → (∀ x ∈ l.take k, x < n) → put_C.Runs 6 (put_h6 l n (k : Int)) (putR l n) := by
  intro d
  induction d with
  | zero =>
    intro k hd hk hlt
    obtain ⟨e1, e2⟩ := put_end l n hb k hk hlt (by rw [drop_end (by omega)]; simp) hl
    refine put_h6_s _ _ _ ⟨0, ?_⟩
    unfold put_h6_t putR
    rw [ge_dec (by omega), decide_eq_false e2, ← e1]
    simp only [dup_eq]
    rw [decide_eq_true (show ((0 : Int) ≤ 0 ∧ (0 : Int) ≤ (k : Int) ∧ (k : Int) ≤ (l.length : Int)) by omega), decide_eq_true (show ((0 : Int) ≤ (k : Int) ∧ (k : Int) ≤ (l.length : Int) ∧ (l.length : Int) ≤ (l.length : Int)) by omega)]
    rw [decide_eq_true (by simp; omega), decide_eq_true (by simp; omega), decide_eq_true (by simp; omega)]
    rfl
  | succ d ih =>
    intro k hd hk hlt
    have hkl : k < l.length := by omega
    refine put_h6_s _ _ _ ?_
    unfold put_h6_t
    simp only [lt_dec hkl, getI_nat, List.getElem?_eq_getElem hkl, dup_eq]
    by_cases c : l[k] < n
    · rw [decide_eq_true c, wrapS (by omega)]
      exact ih (k + 1) (by omega) (by omega) (take_in (Q := fun x => x < n) hkl hlt c)
    · rw [decide_eq_false c]
      by_cases e : l[k] = n
      · refine ⟨0, ?_⟩
        unfold putR
        rw [show (l[k] == n) = true by simpa using e, decide_eq_true (show n ∈ l from e ▸ List.getElem_mem hkl)]
        rfl
      · refine ⟨0, ?_⟩
        obtain ⟨e1, e2⟩ := put_end l n hb k hk hlt (by
          rw [drop_get hkl]
          have hp := List.pairwise_iff_getElem.1 hl
          intro x hx
          rcases List.mem_cons.1 hx with rfl | hx
          · omega
          · obtain ⟨i, hi, rfl⟩ := List.mem_iff_getElem.1 hx
            rw [List.length_drop] at hi
            rw [List.getElem_drop]
            have := hp k (k + 1 + i) hkl (by omega) (by omega)
            omega) hl
        unfold putR
        rw [show (l[k] == n) = false by simpa using e, decide_eq_false e2, ← e1]
        dsimp only
        rw [decide_eq_true (show ((0 : Int) ≤ 0 ∧ (0 : Int) ≤ (k : Int) ∧ (k : Int) ≤ (l.length : Int)) by omega), decide_eq_true (show ((0 : Int) ≤ (k : Int) ∧ (k : Int) ≤ (l.length : Int) ∧ (l.length : Int) ≤ (l.length : Int)) by omega)]
        rw [decide_eq_true (by simp; omega), decide_eq_true (by simp; omega), decide_eq_true (by simp; omega)]
        rfl
theorem putF_self {n : Int} : ∀ {l : List Int}, l.Pairwise (· < ·) → n ∈ l → putF l n = l
  | [], _, h => by simp at h
  | y :: l, hl, h => by
    rw [List.pairwise_cons] at hl
    simp only [putF]
    rcases List.mem_cons.1 h with rfl | h
    · rw [decide_eq_false (by omega)]; simp
    · rw [decide_eq_true (hl.1 n h), cond_true, putF_self hl.2 h]
def putP (l : List Int) : Prop := l.length ≤ 1000000 ∧ l.Pairwise (· < ·)
instance (l : List Int) : Decidable (putP l) := by unfold putP; infer_instance
theorem put_con (l : List Int) (n : Int) (h : putP l) : Con Try.prog 62 [.d (.sl (.int .i64)) l, SI n] [.d (.sl (.int .i64)) (putF l n)] := by
  have := Ctx.Res.con (C := put_C) (ctx_ok (E := []) trivial) (put_s l n (put_loop l n h.1 h.2 _ 0 rfl (Nat.zero_le _) (by simp))) (fn := Try.f62) (by kernel_rfl) (by kernel_rfl)
  unfold putR at this
  by_cases hm : n ∈ l
  · rw [decide_eq_true hm] at this
    rw [putF_self h.2 hm]
    exact this
  · rw [decide_eq_false hm] at this
    exact Con.new_d this
theorem grid_bd {xs ys : List Int} {k j : Nat} (h1 : xs.length ≤ 901) (h2 : ys.length ≤ 901) (hk : k < ys.length) (hj : j ≤ xs.length) (y : Int) : (gridF xs (ys.take k) ++ (xs.take j).map fun x => (x, y)).length ≤ 1000000 := by
  rw [List.length_append, grid_len, List.length_map, List.length_take, List.length_take, Nat.min_eq_left (by omega), Nat.min_eq_left hj]
  have : k * xs.length ≤ 900 * 901 := Nat.mul_le_mul (by omega) h1
  omega
theorem app_ok' {m b : Nat} (hb : b ≤ 1000) (h : m ≤ 1000000) : decide ((m + 1) * b ≤ 140737488355328 ∧ m + 1 ≤ 140737488355328) = true := app_ok hb h
theorem grid_step {xs : List Int} {j : Nat} (hj : j < xs.length) (g : List It) (y : Int) : (g ++ (xs.take j).map fun x => (x, y)) ++ [(xs[j], y)] = g ++ (xs.take (j + 1)).map fun x => (x, y) := by
  rw [List.take_succ_eq_append_getElem hj, List.map_append, List.append_assoc]; rfl
theorem grid_next {xs ys : List Int} {k : Nat} (hk : k < ys.length) : (gridF xs (ys.take k) ++ (xs.take xs.length).map fun x => (x, ys[k])) = gridF xs (ys.take (k + 1)) := by
  rw [List.take_succ_eq_append_getElem hk, grid_snoc, List.take_of_length_le (Nat.le_refl _)]
theorem csp_inner (r0 r1 : List Int) (h1 : (Lib.compact (isort r0)).length ≤ 901) (h2 : (Lib.compact (isort r1)).length ≤ 901) (k : Nat) (hk : k < (Lib.compact (isort r1)).length) (r : List RV)
    (hout : csp_C.Runs 43 (csp_h43 r0 r1 ((k + 1 : Nat) : Int) (gridF (Lib.compact (isort r0)) ((Lib.compact (isort r1)).take (k + 1)))) r) :
    ∀ d j, (Lib.compact (isort r0)).length - j = d → j ≤ (Lib.compact (isort r0)).length → csp_C.Runs 57 (csp_h57 r0 r1 (k : Int) (Lib.compact (isort r1))[k] (j : Int) (gridF (Lib.compact (isort r0)) ((Lib.compact (isort r1)).take k) ++ ((Lib.compact (isort r0)).take j).map fun x => (x, (Lib.compact (isort r1))[k]))) r := by
  intro d
  induction d with
  | zero =>
    intro j hd hj
    have hj : j = (Lib.compact (isort r0)).length := by omega
    subst hj
    refine csp_h57_s _ _ _ _ _ _ ?_
    unfold csp_h57_t
    rw [ge_dec (Nat.le_refl _), grid_next hk]
    dsimp only
    rw [wrapS (by omega)]
    exact hout
  | succ d ih =>
    intro j hd hj
    have hlt : j < (Lib.compact (isort r0)).length := by omega
    have hn := ih (j + 1) (by omega) (by omega)
    have hb := grid_bd h1 h2 hk hj (Lib.compact (isort r1))[k]
    refine csp_h57_s _ _ _ _ _ _ ?_
    unfold csp_h57_t
    rw [lt_dec hlt, getI_nat, toNat_nat, List.getElem?_eq_getElem hlt]
    dsimp only
    rw [List.length_singleton, app_ok (by omega) hb, wrapS (by omega), grid_step hlt]
    exact hn
theorem csp_outer (r0 r1 : List Int) (h1 : (Lib.compact (isort r0)).length ≤ 901) (h2 : (Lib.compact (isort r1)).length ≤ 901) : ∀ d k, (Lib.compact (isort r1)).length - k = d → k ≤ (Lib.compact (isort r1)).length →
    csp_C.Runs 43 (csp_h43 r0 r1 (k : Int) (gridF (Lib.compact (isort r0)) ((Lib.compact (isort r1)).take k))) [.new 45 (.st (.pair (.int .i64) (.int .i64))) (gridF (Lib.compact (isort r0)) (Lib.compact (isort r1)))] := by
  intro d
  induction d with
  | zero =>
    intro k hd hk
    refine csp_h43_s _ _ _ _ ⟨0, ?_⟩
    unfold csp_h43_t
    rw [ge_dec (by omega), List.take_of_length_le (by omega)]
  | succ d ih =>
    intro k hd hk
    have hlt : k < (Lib.compact (isort r1)).length := by omega
    have hn := csp_inner r0 r1 h1 h2 k hlt _ (ih (k + 1) (by omega) (by omega)) _ 0 rfl (Nat.zero_le _)
    simp only [List.take_zero, List.map_nil, List.append_nil] at hn
    refine csp_h43_s _ _ _ _ ?_
    unfold csp_h43_t
    rw [lt_dec hlt, getI_nat, toNat_nat, List.getElem?_eq_getElem hlt]
    exact hn
theorem csp_loop {w h gap : Int} {l : List It} {p : List Pl} (a : Adm w h gap l) (hp : vP p) (hin : ∀ y ∈ p, plIn l y) : ∀ d k, p.length - k = d → k ≤ p.length →
    csp_C.Runs 16 (csp_h16 gap l p (k : Int) (gap :: (p.take k).map (exX gap l)) (gap :: (p.take k).map (exY gap l))) [.new 45 (.st (.pair (.int .i64) (.int .i64))) (gridF (xsF gap l p) (ysF gap l p))] := by
  unfold vP at hp
  intro d
  induction d with
  | zero =>
    intro k hd hk
    refine csp_h16_s _ _ _ _ _ _ ?_
    unfold csp_h16_t
    rw [ge_dec (by omega), List.take_of_length_le (by omega), isort_len, isort_len]
    simp only [List.length_cons, List.length_map]
    rw [decide_eq_true (by omega)]
    have hx := xs_len gap l p
    have hy := ys_len gap l p
    unfold xsF at hx
    unfold ysF at hy
    rw [← comp_fold] at hx hy
    have := csp_outer _ _ (show (Lib.compact (isort (gap :: p.map (exX gap l)))).length ≤ 901 by omega) (show (Lib.compact (isort (gap :: p.map (exY gap l)))).length ≤ 901 by omega) _ 0 rfl (Nat.zero_le _)
    unfold xsF ysF
    rw [← comp_fold, ← comp_fold]
    exact this
  | succ d ih =>
    intro k hd hk
    have hlt : k < p.length := by omega
    have hn := ih (k + 1) (by omega) (by omega)
    have hx := hin _ (List.getElem_mem hlt)
    have ⟨e1, e2⟩ := ex_bd a hx
    rw [List.take_succ_eq_append_getElem hlt, List.map_append, List.map_append] at hn
    refine csp_h16_s _ _ _ _ _ _ ?_
    unfold csp_h16_t
    rw [lt_dec hlt, getI_nat, List.getElem?_eq_getElem hlt]
    generalize p[k] = x at hx e1 e2 hn ⊢
    dsimp only
    rw [eta4, decide_eq_true hx.1]
    simp only [dup_eq]
    rw [e1, e2]
    rw [List.length_singleton, app_ok (by omega) (by simp; omega), List.length_singleton, app_ok (by omega) (by simp; omega), wrapS (by omega)]
    exact hn
theorem csp_con (w h gap : Int) (l : List It) (p : List Pl) (hp : vP p) : Con Try.prog 23 [SI w, SI h, SI gap, .d (.sl (.st (.pair (.int .i64) (.int .i64)))) l, .d (.sl (.st (.pair (.int .i64) (.pair (.int .i64) (.pair (.int .i64) .bool))))) p] [.d (.sl (.st (.pair (.int .i64) (.int .i64)))) (spotsF w h gap l p)] := by
  unfold spotsF
  cases hv : validF w h gap l p with
  | false =>
    refine Con.new_d (et := 45) (Ctx.Res.con (C := csp_C) (ctx_ok env3_ok) ?_ (fn := Try.f23) (by kernel_rfl) (by kernel_rfl))
    refine csp_s _ _ _ _ _ ⟨0, ?_⟩
    unfold csp_t
    rw [decide_eq_true hp, hv]
    rfl
  | true =>
    obtain ⟨a, hin⟩ := valid_in hv
    refine Con.new_d (et := 45) (Ctx.Res.con (C := csp_C) (ctx_ok env3_ok) ?_ (fn := Try.f23) (by kernel_rfl) (by kernel_rfl))
    refine csp_s _ _ _ _ _ ?_
    unfold csp_t
    rw [decide_eq_true hp, hv]
    exact csp_loop a hp hin _ 0 rfl (Nat.zero_le _)
def put_sp : Spec := { keep := false, run := fun _ args k => match args with
  | [.d (.sl (.int .i64)) l, .d (.int .i64) n] => match decide (putP l) with
    | true => k [RV.d (.sl (.int .i64)) (putF l n)]
    | false => none
  | _ => none }
theorem put_spec : callable Try.prog 62 = true ∧ SpecOk Try.prog 62 put_sp ∧ ∀ g, put_sp.mut_ = some g → MCon Try.prog 62 g := by
  refine ⟨by kernel_rfl, fun R args k r h => ?_, fun g h => by simp [put_sp] at h⟩
  unfold put_sp at h
  dsimp only at h
  split at h <;> try (cases h; done)
  split at h <;> try (cases h; done)
  rename_i hd
  exact ⟨_, h, put_con _ _ (of_decide_eq_true hd)⟩
def env4 : Env := [(61, rsz_sp), (27, rva_sp), (62, put_sp)]
theorem env4_ok : EnvAll Try.prog env4 := ⟨rsz_spec, rva_spec, put_spec, trivial⟩
def rsp_nt : NT := [((25, 16), { keep := [2, 3, 4, 11, 12, 13], pure_ := [(11, .int .i64), (12, .int .i64)], hl := 0 }), ((25, 35), { keep := [11, 12, 16, 17], own := [(16, 45, .st (.pair (.int .i64) (.int .i64)))], hl := 1 }), ((25, 47), { keep := [11, 12, 16, 17, 18], hl := 1 })]
noncomputable def rsp_C : Ctx := ⟨Try.prog, ft, tys, env4, rsp_nt⟩
def rsp_h16 (gap : Int) (l : List (Int × Int)) (p : List (Int × Int × Int × Bool)) (s11 : List Int) (s12 : List Int) (s13 : Int) : Cfg := ⟨25, [.blk 0, .seq 29], [(2, SI gap), (3, .d (.sl (.st (.pair (.int .i64) (.int .i64)))) l), (4, .d (.sl (.st (.pair (.int .i64) (.pair (.int .i64) (.pair (.int .i64) .bool))))) p), (11, .d (.sl (.int .i64)) s11), (12, .d (.sl (.int .i64)) s12), (13, SI s13)], [], 0, []⟩
def rsp_h35 (s11 : List Int) (s12 : List Int) (s17 : Int) (r0 : List (Int × Int)) : Cfg := ⟨25, [.blk 2, .seq 59], [(11, .d (.sl (.int .i64)) s11), (12, .d (.sl (.int .i64)) s12), (16, .own 0), (17, SI s17)], [.row 45 (.st (.pair (.int .i64) (.int .i64))) r0], 0, []⟩
def rsp_h47 (s11 : List Int) (s12 : List Int) (s17 : Int) (s18 : Int) (r0 : List (Int × Int)) : Cfg := ⟨25, [.blk 4, .blk 3, .seq 58, .lp 35, .blk 2, .seq 59], [(11, .d (.sl (.int .i64)) s11), (12, .d (.sl (.int .i64)) s12), (16, .own 0), (17, SI s17), (18, SI s18)], [.row 45 (.st (.pair (.int .i64) (.int .i64))) r0], 0, []⟩
def rsp_t (k : Nat → Cfg → Option (List RV)) (w : Int) (h : Int) (gap : Int) (l : List (Int × Int)) (p : List (Int × Int × Int × Bool)) : Option (List RV) := match decide (vP p) with | true => (match !(validF w h gap l p) with | true => some [RV.new 45 (.st (.pair (.int .i64) (.int .i64))) []] | false => k 16 (rsp_h16 gap l p ([gap]) ([gap]) 0)) | false => none
theorem rsp_eq (k : Nat → Cfg → Option (List RV)) (w : Int) (h : Int) (gap : Int) (l : List (Int × Int)) (p : List (Int × Int × Int × Bool)) : go Try.prog ft tys env4 rsp_nt k 4000 (start 25 [SI w, SI h, SI gap, .d (.sl (.st (.pair (.int .i64) (.int .i64)))) l, .d (.sl (.st (.pair (.int .i64) (.pair (.int .i64) (.pair (.int .i64) .bool))))) p]) (.node 0) = rsp_t k w h gap l p := by kernel_rfl
theorem rsp_s (w : Int) (h : Int) (gap : Int) (l : List (Int × Int)) (p : List (Int × Int × Int × Bool)) {rX : List RV} (hX : ∃ nX, rsp_t (rsp_C.k nX) w h gap l p = some rX) : rsp_C.Res 25 [SI w, SI h, SI gap, .d (.sl (.st (.pair (.int .i64) (.int .i64)))) l, .d (.sl (.st (.pair (.int .i64) (.pair (.int .i64) (.pair (.int .i64) .bool))))) p] rX := by
  obtain ⟨nX, hX⟩ := hX
  exact ⟨nX, (rsp_eq _ w h gap l p).trans hX⟩
def rsp_h16_t (k : Nat → Cfg → Option (List RV)) (gap : Int) (l : List (Int × Int)) (p : List (Int × Int × Int × Bool)) (s11 : List Int) (s12 : List Int) (s13 : Int) : Option (List RV) := match decide (s13 < (p.length : Int)) with | true => (match getI p s13 with | some x1 => (match decide (sizeP l x1) with | true => (match getI p s13 with | some x2 => (match getI p s13 with | some x3 => (match decide (putP s11) with | true => (match decide (putP s12) with | true => k 16 (rsp_h16 gap l p (putF s11 (IntKind.i64.wrap ((IntKind.i64.wrap (x2.2.1 + ((sizeF l x1).1))) + gap))) (putF s12 (IntKind.i64.wrap ((IntKind.i64.wrap (x3.2.2.1 + ((sizeF l x1).2))) + gap))) (IntKind.i64.wrap (s13 + 1))) | false => none) | false => none) | none => none) | none => none) | false => none) | none => none) | false => k 35 (rsp_h35 s11 s12 0 ([]))
theorem rsp_h16_eq (k : Nat → Cfg → Option (List RV)) (gap : Int) (l : List (Int × Int)) (p : List (Int × Int × Int × Bool)) (s11 : List Int) (s12 : List Int) (s13 : Int) : go Try.prog ft tys env4 rsp_nt k 4000 { rsp_h16 gap l p s11 s12 s13 with K := .lp 16 :: (rsp_h16 gap l p s11 s12 s13).K } (.node 17) = rsp_h16_t k gap l p s11 s12 s13 := by kernel_rfl
theorem rsp_h16_s (gap : Int) (l : List (Int × Int)) (p : List (Int × Int × Int × Bool)) (s11 : List Int) (s12 : List Int) (s13 : Int) {rX : List RV} (hX : ∃ nX, rsp_h16_t (rsp_C.k nX) gap l p s11 s12 s13 = some rX) : rsp_C.Runs 16 (rsp_h16 gap l p s11 s12 s13) rX := by
  obtain ⟨nX, hX⟩ := hX
  exact ⟨nX + 1, (rsp_h16_eq _ gap l p s11 s12 s13).trans hX⟩
def rsp_h35_t (k : Nat → Cfg → Option (List RV)) (s11 : List Int) (s12 : List Int) (s17 : Int) (r0 : List (Int × Int)) : Option (List RV) := match decide (s17 < (s12.length : Int)) with | true => k 47 (rsp_h47 s11 s12 s17 0 r0) | false => some [RV.new 45 (.st (.pair (.int .i64) (.int .i64))) r0]
theorem rsp_h35_eq (k : Nat → Cfg → Option (List RV)) (s11 : List Int) (s12 : List Int) (s17 : Int) (r0 : List (Int × Int)) : go Try.prog ft tys env4 rsp_nt k 4000 { rsp_h35 s11 s12 s17 r0 with K := .lp 35 :: (rsp_h35 s11 s12 s17 r0).K } (.node 36) = rsp_h35_t k s11 s12 s17 r0 := by kernel_rfl
theorem rsp_h35_s (s11 : List Int) (s12 : List Int) (s17 : Int) (r0 : List (Int × Int)) {rX : List RV} (hX : ∃ nX, rsp_h35_t (rsp_C.k nX) s11 s12 s17 r0 = some rX) : rsp_C.Runs 35 (rsp_h35 s11 s12 s17 r0) rX := by
  obtain ⟨nX, hX⟩ := hX
  exact ⟨nX + 1, (rsp_h35_eq _ s11 s12 s17 r0).trans hX⟩
def rsp_h47_t (k : Nat → Cfg → Option (List RV)) (s11 : List Int) (s12 : List Int) (s17 : Int) (s18 : Int) (r0 : List (Int × Int)) : Option (List RV) := match decide (s18 < (s11.length : Int)) with | true => (match getI s11 s18 with | some x4 => (match getI s12 s17 with | some x5 => (match decide ((r0.length + ([(x4, x5)]).length) * 16 ≤ 140737488355328 ∧ r0.length + ([(x4, x5)]).length ≤ 140737488355328) with | true => k 47 (rsp_h47 s11 s12 s17 (IntKind.i64.wrap (s18 + 1)) (r0 ++ ([(x4, x5)]))) | false => none) | none => none) | none => none) | false => k 35 (rsp_h35 s11 s12 (IntKind.i64.wrap (s17 + 1)) r0)
theorem rsp_h47_eq (k : Nat → Cfg → Option (List RV)) (s11 : List Int) (s12 : List Int) (s17 : Int) (s18 : Int) (r0 : List (Int × Int)) : go Try.prog ft tys env4 rsp_nt k 4000 { rsp_h47 s11 s12 s17 s18 r0 with K := .lp 47 :: (rsp_h47 s11 s12 s17 s18 r0).K } (.node 48) = rsp_h47_t k s11 s12 s17 s18 r0 := by kernel_rfl
theorem rsp_h47_s (s11 : List Int) (s12 : List Int) (s17 : Int) (s18 : Int) (r0 : List (Int × Int)) {rX : List RV} (hX : ∃ nX, rsp_h47_t (rsp_C.k nX) s11 s12 s17 s18 r0 = some rX) : rsp_C.Runs 47 (rsp_h47 s11 s12 s17 s18 r0) rX := by
  obtain ⟨nX, hX⟩ := hX
  exact ⟨nX + 1, (rsp_h47_eq _ s11 s12 s17 s18 r0).trans hX⟩
theorem rsp_inner (xs ys : List Int) (h1 : xs.length ≤ 901) (h2 : ys.length ≤ 901) (k : Nat) (hk : k < ys.length) (r : List RV)
    (hout : rsp_C.Runs 35 (rsp_h35 xs ys ((k + 1 : Nat) : Int) (gridF xs (ys.take (k + 1)))) r) :
    ∀ d j, xs.length - j = d → j ≤ xs.length → rsp_C.Runs 47 (rsp_h47 xs ys (k : Int) (j : Int) (gridF xs (ys.take k) ++ (xs.take j).map fun x => (x, ys[k]))) r := by
  intro d
  induction d with
  | zero =>
    intro j hd hj
    have hj : j = xs.length := by omega
    subst hj
    refine rsp_h47_s _ _ _ _ _ ?_
    unfold rsp_h47_t
    rw [ge_dec (Nat.le_refl _), grid_next hk]
    dsimp only
    rw [wrapS (by omega)]
    exact hout
  | succ d ih =>
    intro j hd hj
    have hlt : j < xs.length := by omega
    have hn := ih (j + 1) (by omega) (by omega)
    have hb := grid_bd h1 h2 hk hj ys[k]
    refine rsp_h47_s _ _ _ _ _ ?_
    unfold rsp_h47_t
    rw [lt_dec hlt, getI_nat, getI_nat, List.getElem?_eq_getElem hlt, List.getElem?_eq_getElem hk]
    dsimp only
    rw [List.length_singleton, app_ok (by omega) hb, wrapS (by omega), grid_step hlt]
    exact hn
theorem rsp_outer (xs ys : List Int) (h1 : xs.length ≤ 901) (h2 : ys.length ≤ 901) : ∀ d k, ys.length - k = d → k ≤ ys.length →
    rsp_C.Runs 35 (rsp_h35 xs ys (k : Int) (gridF xs (ys.take k))) [.new 45 (.st (.pair (.int .i64) (.int .i64))) (gridF xs ys)] := by
  intro d
  induction d with
  | zero =>
    intro k hd hk
    refine rsp_h35_s _ _ _ _ ⟨0, ?_⟩
    unfold rsp_h35_t
    rw [ge_dec (by omega), List.take_of_length_le (by omega)]
  | succ d ih =>
    intro k hd hk
    have hlt : k < ys.length := by omega
    have hn := rsp_inner xs ys h1 h2 k hlt _ (ih (k + 1) (by omega) (by omega)) _ 0 rfl (Nat.zero_le _)
    simp only [List.take_zero, List.map_nil, List.append_nil] at hn
    refine rsp_h35_s _ _ _ _ ?_
    unfold rsp_h35_t
    rw [lt_dec hlt]
    exact hn
theorem rsp_loop {w h gap : Int} {l : List It} {p : List Pl} (a : Adm w h gap l) (hp : vP p) (hin : ∀ y ∈ p, plIn l y) : ∀ d k, p.length - k = d → k ≤ p.length →
    rsp_C.Runs 16 (rsp_h16 gap l p (xsF gap l (p.take k)) (ysF gap l (p.take k)) (k : Int)) [.new 45 (.st (.pair (.int .i64) (.int .i64))) (gridF (xsF gap l p) (ysF gap l p))] := by
  unfold vP at hp
  intro d
  induction d with
  | zero =>
    intro k hd hk
    refine rsp_h16_s _ _ _ _ _ _ ?_
    unfold rsp_h16_t
    rw [ge_dec (by omega), List.take_of_length_le (by omega)]
    have hx := xs_len gap l p
    have hy := ys_len gap l p
    exact rsp_outer _ _ (by omega) (by omega) _ 0 rfl (Nat.zero_le _)
  | succ d ih =>
    intro k hd hk
    have hlt : k < p.length := by omega
    have hn := ih (k + 1) (by omega) (by omega)
    have hx := hin _ (List.getElem_mem hlt)
    have ⟨e1, e2⟩ := ex_bd a hx
    have p1 : putP (xsF gap l (p.take k)) := ⟨by have := xs_len gap l (p.take k); simp at this; omega, (fold_put _ [gap] (by simp)).1⟩
    have p2 : putP (ysF gap l (p.take k)) := ⟨by have := ys_len gap l (p.take k); simp at this; omega, (fold_put _ [gap] (by simp)).1⟩
    rw [List.take_succ_eq_append_getElem hlt] at hn
    unfold xsF ysF at hn
    rw [List.map_append, List.map_append, List.foldl_append, List.foldl_append] at hn
    refine rsp_h16_s _ _ _ _ _ _ ?_
    unfold rsp_h16_t
    rw [lt_dec hlt, getI_nat, List.getElem?_eq_getElem hlt]
    generalize p[k] = x at hx e1 e2 hn ⊢
    dsimp only
    rw [decide_eq_true hx.1, decide_eq_true p1, decide_eq_true p2, e1, e2, wrapS (by omega)]
    exact hn
theorem rsp_con (w h gap : Int) (l : List It) (p : List Pl) (hp : vP p) : Con Try.prog 25 [SI w, SI h, SI gap, .d (.sl (.st (.pair (.int .i64) (.int .i64)))) l, .d (.sl (.st (.pair (.int .i64) (.pair (.int .i64) (.pair (.int .i64) .bool))))) p] [.d (.sl (.st (.pair (.int .i64) (.int .i64)))) (spotsF w h gap l p)] := by
  unfold spotsF
  cases hv : validF w h gap l p with
  | false =>
    refine Con.new_d (et := 45) (Ctx.Res.con (C := rsp_C) (ctx_ok env4_ok) ?_ (fn := Try.f25) (by kernel_rfl) (by kernel_rfl))
    refine rsp_s _ _ _ _ _ ⟨0, ?_⟩
    unfold rsp_t
    rw [decide_eq_true hp, hv]
    rfl
  | true =>
    obtain ⟨a, hin⟩ := valid_in hv
    refine Con.new_d (et := 45) (Ctx.Res.con (C := rsp_C) (ctx_ok env4_ok) ?_ (fn := Try.f25) (by kernel_rfl) (by kernel_rfl))
    refine rsp_s _ _ _ _ _ ?_
    unfold rsp_t
    rw [decide_eq_true hp, hv]
    exact rsp_loop a hp hin _ 0 rfl (Nat.zero_le _)
end Go.Proofs.Ytfkidjkpgliffaa

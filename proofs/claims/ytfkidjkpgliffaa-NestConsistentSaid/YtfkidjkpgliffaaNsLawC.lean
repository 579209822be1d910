/- The law NestConsistent returns true. -/
import Derived.Test.YtfkidjkpgliffaaNs6
namespace Go.Proofs.Ytfkidjkpgliffaa
open Go.RowKit
def cfi_sp : Spec := { keep := true, run := fun _ args k => match args with
  | [.d (.int .i64) w, .d (.int .i64) h, .d (.int .i64) gap, .d (.sl (.st (.pair (.int .i64) (.int .i64)))) l, .d (.sl (.st (.pair (.int .i64) (.pair (.int .i64) (.pair (.int .i64) .bool))))) p, .d (.st (.pair (.int .i64) (.pair (.int .i64) (.pair (.int .i64) .bool)))) x] => match decide (fP p) with
    | true => k [RV.d .bool (fitsF w h gap l p x)]
    | false => none
  | _ => none }
theorem cfi_spec : callable Try.prog 28 = true ∧ SpecOk Try.prog 28 cfi_sp ∧ ∀ g, cfi_sp.mut_ = some g → MCon Try.prog 28 g := by
  refine ⟨by kernel_rfl, fun R args k r h => ?_, fun g h => by simp [cfi_sp] at h⟩
  unfold cfi_sp at h
  dsimp only at h
  split at h <;> try (cases h; done)
  split at h <;> try (cases h; done)
  rename_i hd
  exact ⟨_, h, cfi_con _ _ _ _ _ _ (of_decide_eq_true hd)⟩
def envlCo : Env := [(14, awk_sp), (15, few_sp), (17, its_sp), (20, bks_sp), (16, cne_sp), (30, rad_sp), (27, rva_sp), (23, csp_sp), (28, cfi_sp)]
theorem envlCo_ok : EnvAll Try.prog envlCo := ⟨awk_spec, few_spec, its_spec, bks_spec, cne_spec, rad_spec, rva_spec, csp_spec, cfi_spec, trivial⟩
def lCo_nt : NT := [((6, 34), { keep := [1, 3, 4, 68, 69, 70], hl := 1 }), ((68, 6), { keep := [0, 1, 7, 8], hl := 2 }), ((6, 56), { keep := [1, 3, 4, 8, 68, 69, 70, 85, 86, 87], hl := 2 })]
noncomputable def lCo_C : Ctx := ⟨Try.prog, ft, tys, envlCo, lCo_nt⟩
def lCo_h34 (c : Int × Int × Int × (List (Int × Int)) × List (Int × Int × Int × Bool)) (s70 : Int) : Cfg := ⟨6, [.blk 0, .seq 76], [(1, .box 0 0), (3, .d (.sl (.st (.pair (.int .i64) (.int .i64)))) c.2.2.2.1), (4, .d (.sl (.st (.pair (.int .i64) (.pair (.int .i64) (.pair (.int .i64) .bool))))) ((nestF c.1 c.2.1 c.2.2.1 c.2.2.2.1).1)), (68, .d (.sl (.int .i64)) ((nestF c.1 c.2.1 c.2.2.1 c.2.2.2.1).2.1)), (69, SI (((nestF c.1 c.2.1 c.2.2.1 c.2.2.2.1).2.1).length : Int)), (70, SI s70)], [.box 25 [SI c.1, SI c.2.1, SI c.2.2.1, .d (.sl (.st (.pair (.int .i64) (.int .i64)))) c.2.2.2.1, .d (.sl (.st (.pair (.int .i64) (.pair (.int .i64) (.pair (.int .i64) .bool))))) c.2.2.2.2]], 0, []⟩
def lCo_h68_6 (c : Int × Int × Int × (List (Int × Int)) × List (Int × Int × Int × Bool)) (s70 : Int) (x1 : Int) (s68_8 : Int) : Cfg := ⟨68, [.blk 0, .seq 25], [(0, .d (.sl (.st (.pair (.int .i64) (.pair (.int .i64) (.pair (.int .i64) .bool))))) ((nestF c.1 c.2.1 c.2.2.1 c.2.2.2.1).1)), (1, .clo 32 [1]), (7, SI (((nestF c.1 c.2.1 c.2.2.1 c.2.2.2.1).1).length : Int)), (8, SI s68_8)], [.box 25 [SI c.1, SI c.2.1, SI c.2.2.1, .d (.sl (.st (.pair (.int .i64) (.int .i64)))) c.2.2.2.1, .d (.sl (.st (.pair (.int .i64) (.pair (.int .i64) (.pair (.int .i64) .bool))))) c.2.2.2.2], .box 3 [SI x1]], 2, [⟨31, [.seq 4], 3, 2, [(6, .clo 32 [1]), (5, .d (.sl (.st (.pair (.int .i64) (.pair (.int .i64) (.pair (.int .i64) .bool))))) ((nestF c.1 c.2.1 c.2.2.1 c.2.2.2.1).1)), (4, SB false), (0, .d (.sl (.st (.pair (.int .i64) (.pair (.int .i64) (.pair (.int .i64) .bool))))) ((nestF c.1 c.2.1 c.2.2.1 c.2.2.2.1).1)), (1, .clo 32 [1])], 2⟩, ⟨6, [.seq 48, .seq 53, .blk 1, .seq 75, .lp 34, .blk 0, .seq 76], 47, 2, [(75, .clo 32 [1]), (74, .d (.sl (.st (.pair (.int .i64) (.pair (.int .i64) (.pair (.int .i64) .bool))))) ((nestF c.1 c.2.1 c.2.2.1 c.2.2.2.1).1)), (8, .box 1 0), (73, SI x1), (72, .elt (.int .i64) x1 0), (71, SB (decide (s70 < (((nestF c.1 c.2.1 c.2.2.1 c.2.2.2.1).2.1).length : Int)))), (1, .box 0 0), (3, .d (.sl (.st (.pair (.int .i64) (.int .i64)))) c.2.2.2.1), (4, .d (.sl (.st (.pair (.int .i64) (.pair (.int .i64) (.pair (.int .i64) .bool))))) ((nestF c.1 c.2.1 c.2.2.1 c.2.2.2.1).1)), (68, .d (.sl (.int .i64)) ((nestF c.1 c.2.1 c.2.2.1 c.2.2.2.1).2.1)), (69, SI (((nestF c.1 c.2.1 c.2.2.1 c.2.2.2.1).2.1).length : Int)), (70, SI s70)], 0⟩]⟩
def lCo_h56 (c : Int × Int × Int × (List (Int × Int)) × List (Int × Int × Int × Bool)) (s70 : Int) (x1 : Int) (s87 : Int) : Cfg := ⟨6, [.blk 2, .blk 1, .seq 75, .lp 34, .blk 0, .seq 76], [(1, .box 0 0), (3, .d (.sl (.st (.pair (.int .i64) (.int .i64)))) c.2.2.2.1), (4, .d (.sl (.st (.pair (.int .i64) (.pair (.int .i64) (.pair (.int .i64) .bool))))) ((nestF c.1 c.2.1 c.2.2.1 c.2.2.2.1).1)), (8, .box 1 0), (68, .d (.sl (.int .i64)) ((nestF c.1 c.2.1 c.2.2.1 c.2.2.2.1).2.1)), (69, SI (((nestF c.1 c.2.1 c.2.2.1 c.2.2.2.1).2.1).length : Int)), (70, SI s70), (85, .d (.sl (.st (.pair (.int .i64) (.int .i64)))) (spotsF c.1 c.2.1 c.2.2.1 c.2.2.2.1 ((nestF c.1 c.2.1 c.2.2.1 c.2.2.2.1).1))), (86, SI ((spotsF c.1 c.2.1 c.2.2.1 c.2.2.2.1 ((nestF c.1 c.2.1 c.2.2.1 c.2.2.2.1).1)).length : Int)), (87, SI s87)], [.box 25 [SI c.1, SI c.2.1, SI c.2.2.1, .d (.sl (.st (.pair (.int .i64) (.int .i64)))) c.2.2.2.1, .d (.sl (.st (.pair (.int .i64) (.pair (.int .i64) (.pair (.int .i64) .bool))))) c.2.2.2.2], .box 3 [SI x1]], 0, []⟩
def lCo_t (k : Nat → Cfg → Option (List RV)) (c : Int × Int × Int × (List (Int × Int)) × List (Int × Int × Int × Bool)) : Option (List RV) := match !true with | true => some [RV.d .bool true] | false => (match !(fewF (c.1, (c.2.1, (c.2.2.1, (c.2.2.2.1, c.2.2.2.2))))) with | true => some [RV.d .bool true] | false => (match decide (c.2.2.2.1.length ≤ 1000) with | true => (match ((nestF c.1 c.2.1 c.2.2.1 c.2.2.2.1).2.2) != 0 with | true => some [RV.d .bool (!(admF c.1 c.2.1 c.2.2.1 c.2.2.2.1))] | false => (match decide (((nestF c.1 c.2.1 c.2.2.1 c.2.2.2.1).1).length ≤ 1000) with | true => (match decide (vP ((nestF c.1 c.2.1 c.2.2.1 c.2.2.2.1).1)) with | true => (match !(validF c.1 c.2.1 c.2.2.1 c.2.2.2.1 ((nestF c.1 c.2.1 c.2.2.1 c.2.2.2.1).1)) with | true => some [RV.d .bool false] | false => (match (IntKind.i64.wrap ((((nestF c.1 c.2.1 c.2.2.1 c.2.2.2.1).1).length : Int) + (((nestF c.1 c.2.1 c.2.2.1 c.2.2.2.1).2.1).length : Int))) != (c.2.2.2.1.length : Int) with | true => some [RV.d .bool false] | false => k 34 (lCo_h34 c 0))) | false => none) | false => none)) | false => none))
theorem lCo_eq (k : Nat → Cfg → Option (List RV)) (c : Int × Int × Int × (List (Int × Int)) × List (Int × Int × Int × Bool)) : go Try.prog ft tys envlCo lCo_nt k 4000 (start 6 [.d (.st (.pair (.int .i64) (.pair (.int .i64) (.pair (.int .i64) (.pair (.sl (.st (.pair (.int .i64) (.int .i64)))) (.sl (.st (.pair (.int .i64) (.pair (.int .i64) (.pair (.int .i64) .bool)))))))))) c]) (.node 0) = lCo_t k c := by kernel_rfl
theorem lCo_s (c : Int × Int × Int × (List (Int × Int)) × List (Int × Int × Int × Bool)) {rX : List RV} (hX : ∃ nX, lCo_t (lCo_C.k nX) c = some rX) : lCo_C.Res 6 [.d (.st (.pair (.int .i64) (.pair (.int .i64) (.pair (.int .i64) (.pair (.sl (.st (.pair (.int .i64) (.int .i64)))) (.sl (.st (.pair (.int .i64) (.pair (.int .i64) (.pair (.int .i64) .bool)))))))))) c] rX := by
  obtain ⟨nX, hX⟩ := hX
  exact ⟨nX, (lCo_eq _ c).trans hX⟩
def lCo_h34_t (k : Nat → Cfg → Option (List RV)) (c : Int × Int × Int × (List (Int × Int)) × List (Int × Int × Int × Bool)) (s70 : Int) : Option (List RV) := match decide (s70 < (((nestF c.1 c.2.1 c.2.2.1 c.2.2.2.1).2.1).length : Int)) with | true => (match getI ((nestF c.1 c.2.1 c.2.2.1 c.2.2.2.1).2.1) s70 with | some x1 => k 6 (lCo_h68_6 c s70 x1 0) | none => none) | false => some [RV.d .bool true]
theorem lCo_h34_eq (k : Nat → Cfg → Option (List RV)) (c : Int × Int × Int × (List (Int × Int)) × List (Int × Int × Int × Bool)) (s70 : Int) : go Try.prog ft tys envlCo lCo_nt k 4000 { lCo_h34 c s70 with K := .lp 34 :: (lCo_h34 c s70).K } (.node 35) = lCo_h34_t k c s70 := by kernel_rfl
theorem lCo_h34_s (c : Int × Int × Int × (List (Int × Int)) × List (Int × Int × Int × Bool)) (s70 : Int) {rX : List RV} (hX : ∃ nX, lCo_h34_t (lCo_C.k nX) c s70 = some rX) : lCo_C.Runs 34 (lCo_h34 c s70) rX := by
  obtain ⟨nX, hX⟩ := hX
  exact ⟨nX + 1, (lCo_h34_eq _ c s70).trans hX⟩
def lCo_h68_6_t (k : Nat → Cfg → Option (List RV)) (c : Int × Int × Int × (List (Int × Int)) × List (Int × Int × Int × Bool)) (s70 : Int) (x1 : Int) (s68_8 : Int) : Option (List RV) := match decide (s68_8 < (((nestF c.1 c.2.1 c.2.2.1 c.2.2.2.1).1).length : Int)) with | true => (match getI ((nestF c.1 c.2.1 c.2.2.1 c.2.2.2.1).1) s68_8 with | some x2 => (match x2.1 == x1 with | true => (match decide (s68_8 ≥ 0) with | true => some [RV.d .bool false] | false => (match decide (vP ((nestF c.1 c.2.1 c.2.2.1 c.2.2.2.1).1)) with | true => k 56 (lCo_h56 c s70 x1 0) | false => none)) | false => k 6 (lCo_h68_6 c s70 x1 (IntKind.i64.wrap (s68_8 + 1)))) | none => none) | false => (match decide ((-1) ≥ 0) with | true => some [RV.d .bool false] | false => (match decide (vP ((nestF c.1 c.2.1 c.2.2.1 c.2.2.2.1).1)) with | true => k 56 (lCo_h56 c s70 x1 0) | false => none))
theorem lCo_h68_6_eq (k : Nat → Cfg → Option (List RV)) (c : Int × Int × Int × (List (Int × Int)) × List (Int × Int × Int × Bool)) (s70 : Int) (x1 : Int) (s68_8 : Int) : go Try.prog ft tys envlCo lCo_nt k 4000 { lCo_h68_6 c s70 x1 s68_8 with K := .lp 6 :: (lCo_h68_6 c s70 x1 s68_8).K } (.node 7) = lCo_h68_6_t k c s70 x1 s68_8 := by kernel_rfl
theorem lCo_h68_6_s (c : Int × Int × Int × (List (Int × Int)) × List (Int × Int × Int × Bool)) (s70 : Int) (x1 : Int) (s68_8 : Int) {rX : List RV} (hX : ∃ nX, lCo_h68_6_t (lCo_C.k nX) c s70 x1 s68_8 = some rX) : lCo_C.Runs 6 (lCo_h68_6 c s70 x1 s68_8) rX := by
  obtain ⟨nX, hX⟩ := hX
  exact ⟨nX + 1, (lCo_h68_6_eq _ c s70 x1 s68_8).trans hX⟩
def lCo_h56_t (k : Nat → Cfg → Option (List RV)) (c : Int × Int × Int × (List (Int × Int)) × List (Int × Int × Int × Bool)) (s70 : Int) (x1 : Int) (s87 : Int) : Option (List RV) := match decide (s87 < ((spotsF c.1 c.2.1 c.2.2.1 c.2.2.2.1 ((nestF c.1 c.2.1 c.2.2.1 c.2.2.2.1).1)).length : Int)) with | true => (match getI (spotsF c.1 c.2.1 c.2.2.1 c.2.2.2.1 ((nestF c.1 c.2.1 c.2.2.1 c.2.2.2.1).1)) s87 with | some x3 => (match decide (fP ((nestF c.1 c.2.1 c.2.2.1 c.2.2.2.1).1)) with | true => (match fitsF c.1 c.2.1 c.2.2.1 c.2.2.2.1 ((nestF c.1 c.2.1 c.2.2.1 c.2.2.2.1).1) (x1, (x3.1, (x3.2, false))) with | true => some [RV.d .bool false] | false => (match decide (fP ((nestF c.1 c.2.1 c.2.2.1 c.2.2.2.1).1)) with | true => (match fitsF c.1 c.2.1 c.2.2.1 c.2.2.2.1 ((nestF c.1 c.2.1 c.2.2.1 c.2.2.2.1).1) (x1, (x3.1, (x3.2, true))) with | true => some [RV.d .bool false] | false => k 56 (lCo_h56 c s70 x1 (IntKind.i64.wrap (s87 + 1)))) | false => none)) | false => none) | none => none) | false => k 34 (lCo_h34 c (IntKind.i64.wrap (s70 + 1)))
theorem lCo_h56_eq (k : Nat → Cfg → Option (List RV)) (c : Int × Int × Int × (List (Int × Int)) × List (Int × Int × Int × Bool)) (s70 : Int) (x1 : Int) (s87 : Int) : go Try.prog ft tys envlCo lCo_nt k 4000 { lCo_h56 c s70 x1 s87 with K := .lp 56 :: (lCo_h56 c s70 x1 s87).K } (.node 57) = lCo_h56_t k c s70 x1 s87 := by kernel_rfl
theorem lCo_h56_s (c : Int × Int × Int × (List (Int × Int)) × List (Int × Int × Int × Bool)) (s70 : Int) (x1 : Int) (s87 : Int) {rX : List RV} (hX : ∃ nX, lCo_h56_t (lCo_C.k nX) c s70 x1 s87 = some rX) : lCo_C.Runs 56 (lCo_h56 c s70 x1 s87) rX := by
  obtain ⟨nX, hX⟩ := hX
  exact ⟨nX + 1, (lCo_h56_eq _ c s70 x1 s87).trans hX⟩
theorem lCo_spots (c : Cs) (hp : fP (nestF c.1 c.2.1 c.2.2.1 c.2.2.2.1).1) (k : Nat) (i : Int) (hno : ∀ x y t, fitsF c.1 c.2.1 c.2.2.1 c.2.2.2.1 (nestF c.1 c.2.1 c.2.2.1 c.2.2.2.1).1 (i, x, y, t) = false) (hk : k ≤ 1000)
    (hout : lCo_C.Runs 34 (lCo_h34 c ((k + 1 : Nat) : Int)) [.d .bool true]) : ∀ d m, (spotsF c.1 c.2.1 c.2.2.1 c.2.2.2.1 (nestF c.1 c.2.1 c.2.2.1 c.2.2.2.1).1).length - m = d → m ≤ (spotsF c.1 c.2.1 c.2.2.1 c.2.2.2.1 (nestF c.1 c.2.1 c.2.2.1 c.2.2.2.1).1).length → lCo_C.Runs 56 (lCo_h56 c (k : Int) i (m : Int)) [.d .bool true] := by
  have hb := spots_in (w := c.1) (h := c.2.1) (gap := c.2.2.1) (l := c.2.2.2.1) hp
  intro d
  induction d with
  | zero =>
    intro m hd hm
    refine lCo_h56_s _ _ _ _ ?_
    unfold lCo_h56_t
    rw [ge_dec (by omega)]
    dsimp only
    rw [wrapS (by omega)]
    exact hout
  | succ d ih =>
    intro m hd hm
    have hlt : m < (spotsF c.1 c.2.1 c.2.2.1 c.2.2.2.1 (nestF c.1 c.2.1 c.2.2.1 c.2.2.2.1).1).length := by omega
    have hn := ih (m + 1) (by omega) (by omega)
    refine lCo_h56_s _ _ _ _ ?_
    unfold lCo_h56_t
    rw [lt_dec hlt, getI_nat, List.getElem?_eq_getElem hlt, decide_eq_true hp]
    dsimp only
    rw [hno, hno]
    dsimp only
    rw [wrapS (by omega)]
    exact hn
theorem lCo_scan (c : Cs) (hp : fP (nestF c.1 c.2.1 c.2.2.1 c.2.2.2.1).1) (k : Nat) (i : Int) (hno : ∀ x y t, fitsF c.1 c.2.1 c.2.2.1 c.2.2.2.1 (nestF c.1 c.2.1 c.2.2.1 c.2.2.2.1).1 (i, x, y, t) = false) (hk : k ≤ 1000) (hne : ∀ q ∈ (nestF c.1 c.2.1 c.2.2.1 c.2.2.2.1).1, q.1 ≠ i)
    (hout : lCo_C.Runs 34 (lCo_h34 c ((k + 1 : Nat) : Int)) [.d .bool true]) : ∀ d m, (nestF c.1 c.2.1 c.2.2.1 c.2.2.2.1).1.length - m = d → m ≤ (nestF c.1 c.2.1 c.2.2.1 c.2.2.2.1).1.length → lCo_C.Runs 6 (lCo_h68_6 c (k : Int) i (m : Int)) [.d .bool true] := by
  have hl := (nest_len c.1 c.2.1 c.2.2.1 c.2.2.2.1).1
  intro d
  induction d with
  | zero =>
    intro m hd hm
    refine lCo_h68_6_s _ _ _ _ ?_
    unfold lCo_h68_6_t
    rw [ge_dec (by omega), decide_eq_true hp.v]
    exact lCo_spots c hp k i hno hk hout _ 0 rfl (Nat.zero_le _)
  | succ d ih =>
    intro m hd hm
    have hlt : m < (nestF c.1 c.2.1 c.2.2.1 c.2.2.2.1).1.length := by omega
    have hn := ih (m + 1) (by omega) (by omega)
    refine lCo_h68_6_s _ _ _ _ ?_
    unfold lCo_h68_6_t
    rw [lt_dec hlt, getI_nat, List.getElem?_eq_getElem hlt]
    dsimp only
    rw [show ((nestF c.1 c.2.1 c.2.2.1 c.2.2.2.1).1[m].1 == i) = false by simpa using hne _ (List.getElem_mem hlt)]
    dsimp only
    rw [wrapS (by omega)]
    exact hn
theorem lCo_loop (c : Cs) (ha : admF c.1 c.2.1 c.2.2.1 c.2.2.2.1 = true) : ∀ d k, (nestF c.1 c.2.1 c.2.2.1 c.2.2.2.1).2.1.length - k = d → k ≤ (nestF c.1 c.2.1 c.2.2.1 c.2.2.2.1).2.1.length → lCo_C.Runs 34 (lCo_h34 c (k : Int)) [.d .bool true] := by
  have hl := nest_len c.1 c.2.1 c.2.2.1 c.2.2.2.1
  have hp : fP (nestF c.1 c.2.1 c.2.2.1 c.2.2.2.1).1 := by unfold fP; omega
  have hE : nestF c.1 c.2.1 c.2.2.1 c.2.2.2.1 = ((nestTo c.1 c.2.1 c.2.2.1 c.2.2.2.1 c.2.2.2.1.length).1, (nestTo c.1 c.2.1 c.2.2.1 c.2.2.2.1 c.2.2.2.1.length).2, 0) := by unfold nestF; rw [ha]; rfl
  have inv := nest_inv ha c.2.2.2.1.length (Nat.le_refl _)
  intro d
  induction d with
  | zero =>
    intro k hd hk
    refine lCo_h34_s _ _ ⟨0, ?_⟩
    unfold lCo_h34_t
    rw [ge_dec (by omega)]
  | succ d ih =>
    intro k hd hk
    have hlt : k < (nestF c.1 c.2.1 c.2.2.1 c.2.2.2.1).2.1.length := by omega
    have hn := ih (k + 1) (by omega) (by omega)
    have hm : (nestF c.1 c.2.1 c.2.2.1 c.2.2.2.1).2.1[k] ∈ (nestTo c.1 c.2.1 c.2.2.1 c.2.2.2.1 c.2.2.2.1.length).2 := by
      have := List.getElem_mem hlt
      rw [show (nestTo c.1 c.2.1 c.2.2.1 c.2.2.2.1 c.2.2.2.1.length).2 = (nestF c.1 c.2.1 c.2.2.1 c.2.2.2.1).2.1 by rw [hE]]
      exact this
    obtain ⟨r1, r2, r3⟩ := rest_spec ha c.2.2.2.1.length (Nat.le_refl _) _ (fun q hq => hq) _ hm
    refine lCo_h34_s _ _ ?_
    unfold lCo_h34_t
    rw [lt_dec hlt, getI_nat, List.getElem?_eq_getElem hlt]
    refine lCo_scan c hp k _ (fun x y t => ?_) (by omega) (fun q hq => ?_) hn _ 0 rfl (Nat.zero_le _)
    · have hst : stP c.1 c.2.1 c.2.2.1 c.2.2.2.1 (nestF c.1 c.2.1 c.2.2.1 c.2.2.2.1).1 (nestF c.1 c.2.1 c.2.2.1 c.2.2.2.1).2.1[k] := by
        refine ⟨by rw [hE]; exact inv.v, hp, ⟨r1.1, r1.2⟩, List.all_eq_true.2 fun q hq => ?_⟩
        have := r2 q (by rw [hE] at hq; exact hq)
        simpa using fun e => this (Eq.symm e)
      rw [fits_good hst]
      have e0 : (nestF c.1 c.2.1 c.2.2.1 c.2.2.2.1).1 = (nestTo c.1 c.2.1 c.2.2.1 c.2.2.2.1 c.2.2.2.1.length).1 := by rw [hE]
      rw [e0]
      exact r3 x y t
    · exact r2 q (by rw [hE] at hq; exact hq)
theorem lCo_con (c : Cs) (_h : (Ty.ok (.st (.pair (.int .i64) (.pair (.int .i64) (.pair (.int .i64) (.pair (.sl (.st (.pair (.int .i64) (.int .i64)))) (.sl (.st (.pair (.int .i64) (.pair (.int .i64) (.pair (.int .i64) .bool)))))))))) c)) : Con Try.prog 6 [.d (.st (.pair (.int .i64) (.pair (.int .i64) (.pair (.int .i64) (.pair (.sl (.st (.pair (.int .i64) (.int .i64)))) (.sl (.st (.pair (.int .i64) (.pair (.int .i64) (.pair (.int .i64) .bool)))))))))) c] [.d .bool true] := by
  refine Ctx.Res.con (C := lCo_C) (ctx_ok envlCo_ok) ?_ (fn := Try.f6) (by kernel_rfl) (by kernel_rfl)
  refine lCo_s _ ?_
  unfold lCo_t
  cases hf : fewF (c.1, (c.2.1, (c.2.2.1, (c.2.2.2.1, c.2.2.2.2)))) with
  | false => exact ⟨0, rfl⟩
  | true =>
    have hb := few_bd hf
    dsimp only at hb
    have hl := nest_len c.1 c.2.1 c.2.2.1 c.2.2.2.1
    have hv : vP (nestF c.1 c.2.1 c.2.2.1 c.2.2.2.1).1 := by unfold vP; omega
    rw [decide_eq_true (show c.2.2.2.1.length ≤ 1000 by omega)]
    cases ha : admF c.1 c.2.1 c.2.2.1 c.2.2.2.1 with
    | false =>
      refine ⟨0, ?_⟩
      rw [show (nestF c.1 c.2.1 c.2.2.1 c.2.2.2.1).2.2 = 1 by unfold nestF; rw [ha]; rfl]
      rfl
    | true =>
      have inv := nest_inv ha c.2.2.2.1.length (Nat.le_refl _)
      have hE : nestF c.1 c.2.1 c.2.2.1 c.2.2.2.1 = ((nestTo c.1 c.2.1 c.2.2.1 c.2.2.2.1 c.2.2.2.1.length).1, (nestTo c.1 c.2.1 c.2.2.1 c.2.2.2.1 c.2.2.2.1.length).2, 0) := by unfold nestF; rw [ha]; rfl
      have e1 : validF c.1 c.2.1 c.2.2.1 c.2.2.2.1 (nestF c.1 c.2.1 c.2.2.1 c.2.2.2.1).1 = true := by rw [hE]; exact inv.v
      have e2 : (nestF c.1 c.2.1 c.2.2.1 c.2.2.2.1).1.length + (nestF c.1 c.2.1 c.2.2.1 c.2.2.2.1).2.1.length = c.2.2.2.1.length := by rw [hE]; exact inv.n
      have e3 : IntKind.i64.wrap (((nestF c.1 c.2.1 c.2.2.1 c.2.2.2.1).1.length : Int) + ((nestF c.1 c.2.1 c.2.2.1 c.2.2.2.1).2.1.length : Int)) = (c.2.2.2.1.length : Int) := by rw [wrap64 (by omega) (by omega)]; omega
      have := lCo_loop c ha _ 0 rfl (Nat.zero_le _)
      rw [show (nestF c.1 c.2.1 c.2.2.1 c.2.2.2.1).2.2 = 0 by rw [hE], decide_eq_true hv, decide_eq_true (show (nestF c.1 c.2.1 c.2.2.1 c.2.2.2.1).1.length ≤ 1000 by omega), e1, e3, show ((c.2.2.2.1.length : Int) != (c.2.2.2.1.length : Int)) = false by simp]
      exact this
end Go.Proofs.Ytfkidjkpgliffaa

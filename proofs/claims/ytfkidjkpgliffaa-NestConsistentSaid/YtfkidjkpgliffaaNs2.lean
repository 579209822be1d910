/- nest.Valid and the reference's. -/
import Derived.Test.YtfkidjkpgliffaaNs1
namespace Go.Proofs.Ytfkidjkpgliffaa
open Go.RowKit
/-- Two places agree. -/
def twoF (gap : Int) (l : List It) (x y : Pl) : Bool := !(x.1 == y.1) && apF gap l x y
def okAt (w h gap : Int) (l : List It) (pre : List Pl) (x : Pl) : Bool := decide (0 ≤ x.1) && decide (x.1 < (l.length : Int)) && onF w h gap l x && pre.all (twoF gap l x)
def okL (w h gap : Int) (l : List It) : List Pl → List Pl → Bool
  | _, [] => true
  | pre, x :: xs => okAt w h gap l pre x && okL w h gap l (pre ++ [x]) xs
def validF (w h gap : Int) (l : List It) (p : List Pl) : Bool := admF w h gap l && okL w h gap l [] p
def vP (p : List Pl) : Prop := p.length ≤ 900
instance (p : List Pl) : Decidable (vP p) := by unfold vP; infer_instance
theorem on_in {w h gap : Int} {l : List It} (a : Adm w h gap l) {x : Pl} (hs : sizeP l x) (ho : onF w h gap l x = true) : plIn l x := by
  unfold onF at ho
  simp only [Bool.and_eq_true, Bool.not_eq_true', decide_eq_true_eq, decide_eq_false_iff_not] at ho
  obtain ⟨⟨⟨⟨⟨o1, o2⟩, o3⟩, o4⟩, o5⟩, o6⟩ := ho
  obtain ⟨a1, a2, a3, a4, a5, a6, a7, a8⟩ := a
  exact ⟨hs, by omega, by omega, by omega, by omega⟩
theorem take_in {α : Type} {p : List α} {k : Nat} (hk : k < p.length) {Q : α → Prop} (h : ∀ y ∈ p.take k, Q y) (hx : Q p[k]) : ∀ y ∈ p.take (k + 1), Q y := by
  intro y hy
  rw [List.take_succ_eq_append_getElem hk] at hy
  rcases List.mem_append.1 hy with hy | hy
  · exact h y hy
  · simp at hy; subst hy; exact hx
def con_sp : Spec := { keep := true, run := fun _ args k => match args with
  | [.d (.int .i64) w, .d (.int .i64) h, .d (.int .i64) gap, .d (.sl (.st (.pair (.int .i64) (.int .i64)))) l, .d (.st (.pair (.int .i64) (.pair (.int .i64) (.pair (.int .i64) .bool)))) p] => match decide (onP w h gap l p) with
    | true => k [RV.d .bool (onF w h gap l p)]
    | false => none
  | _ => none }
theorem con_spec : callable Try.prog 63 = true ∧ SpecOk Try.prog 63 con_sp ∧ ∀ g, con_sp.mut_ = some g → MCon Try.prog 63 g := by
  refine ⟨by kernel_rfl, fun R args k r h => ?_, fun g h => by simp [con_sp] at h⟩
  unfold con_sp at h
  dsimp only at h
  split at h <;> try (cases h; done)
  split at h <;> try (cases h; done)
  rename_i hd
  exact ⟨_, h, con_con _ _ _ _ _ (of_decide_eq_true hd)⟩
def cap_sp : Spec := { keep := true, run := fun _ args k => match args with
  | [.d (.int .i64) gap, .d (.sl (.st (.pair (.int .i64) (.int .i64)))) l, .d (.st (.pair (.int .i64) (.pair (.int .i64) (.pair (.int .i64) .bool)))) p, .d (.st (.pair (.int .i64) (.pair (.int .i64) (.pair (.int .i64) .bool)))) q] => match decide (apP gap l p q) with
    | true => k [RV.d .bool (apF gap l p q)]
    | false => none
  | _ => none }
theorem cap_spec : callable Try.prog 64 = true ∧ SpecOk Try.prog 64 cap_sp ∧ ∀ g, cap_sp.mut_ = some g → MCon Try.prog 64 g := by
  refine ⟨by kernel_rfl, fun R args k r h => ?_, fun g h => by simp [cap_sp] at h⟩
  unfold cap_sp at h
  dsimp only at h
  split at h <;> try (cases h; done)
  split at h <;> try (cases h; done)
  rename_i hd
  exact ⟨_, h, cap_con _ _ _ _ (of_decide_eq_true hd)⟩
def env2 : Env := [(55, cad_sp), (30, rad_sp), (58, csz_sp), (61, rsz_sp), (63, con_sp), (64, cap_sp)]
theorem env2_ok : EnvAll Try.prog env2 := ⟨cad_spec, rad_spec, csz_spec, rsz_spec, con_spec, cap_spec, trivial⟩
def cva_nt : NT := [((26, 14), { keep := [0, 1, 2, 3, 4, 21, 22, 23], hl := 0 }), ((26, 36), { keep := [0, 1, 2, 3, 4, 12, 21, 22, 23, 49, 50, 51], hl := 1 })]
noncomputable def cva_C : Ctx := ⟨Try.prog, ft, tys, env2, cva_nt⟩
def cva_h14 (w : Int) (h : Int) (gap : Int) (l : List (Int × Int)) (p : List (Int × Int × Int × Bool)) (s23 : Int) : Cfg := ⟨26, [.blk 0, .seq 56], [(0, SI w), (1, SI h), (2, SI gap), (3, .d (.sl (.st (.pair (.int .i64) (.int .i64)))) l), (4, .d (.sl (.st (.pair (.int .i64) (.pair (.int .i64) (.pair (.int .i64) .bool))))) p), (21, .d (.sl (.st (.pair (.int .i64) (.pair (.int .i64) (.pair (.int .i64) .bool))))) p), (22, SI (p.length : Int)), (23, SI s23)], [], 0, []⟩
def cva_h36 (w : Int) (h : Int) (gap : Int) (l : List (Int × Int)) (p : List (Int × Int × Int × Bool)) (s23 : Int) (x1 : Int × Int × Int × Bool) (s51 : Int) : Cfg := ⟨26, [.blk 2, .blk 1, .seq 55, .lp 14, .blk 0, .seq 56], [(0, SI w), (1, SI h), (2, SI gap), (3, .d (.sl (.st (.pair (.int .i64) (.int .i64)))) l), (4, .d (.sl (.st (.pair (.int .i64) (.pair (.int .i64) (.pair (.int .i64) .bool))))) p), (12, .box 0 0), (21, .d (.sl (.st (.pair (.int .i64) (.pair (.int .i64) (.pair (.int .i64) .bool))))) p), (22, SI (p.length : Int)), (23, SI s23), (49, .d (.sl (.st (.pair (.int .i64) (.pair (.int .i64) (.pair (.int .i64) .bool))))) ((p.take (s23).toNat).drop (0 : Int).toNat)), (50, SI (((p.take (s23).toNat).drop (0 : Int).toNat).length : Int)), (51, SI s51)], [.box 52 [SI x1.1, SI x1.2.1, SI x1.2.2.1, SB x1.2.2.2]], 0, []⟩
def cva_t (k : Nat → Cfg → Option (List RV)) (w : Int) (h : Int) (gap : Int) (l : List (Int × Int)) (p : List (Int × Int × Int × Bool)) : Option (List RV) := match !(admF w h gap l) with | true => some [RV.d .bool false] | false => k 14 (cva_h14 w h gap l p 0)
theorem cva_eq (k : Nat → Cfg → Option (List RV)) (w : Int) (h : Int) (gap : Int) (l : List (Int × Int)) (p : List (Int × Int × Int × Bool)) : go Try.prog ft tys env2 cva_nt k 4000 (start 26 [SI w, SI h, SI gap, .d (.sl (.st (.pair (.int .i64) (.int .i64)))) l, .d (.sl (.st (.pair (.int .i64) (.pair (.int .i64) (.pair (.int .i64) .bool))))) p]) (.node 0) = cva_t k w h gap l p := by kernel_rfl
theorem cva_s (w : Int) (h : Int) (gap : Int) (l : List (Int × Int)) (p : List (Int × Int × Int × Bool)) {rX : List RV} (hX : ∃ nX, cva_t (cva_C.k nX) w h gap l p = some rX) : cva_C.Res 26 [SI w, SI h, SI gap, .d (.sl (.st (.pair (.int .i64) (.int .i64)))) l, .d (.sl (.st (.pair (.int .i64) (.pair (.int .i64) (.pair (.int .i64) .bool))))) p] rX := by
  obtain ⟨nX, hX⟩ := hX
  exact ⟨nX, (cva_eq _ w h gap l p).trans hX⟩
def cva_h14_t (k : Nat → Cfg → Option (List RV)) (w : Int) (h : Int) (gap : Int) (l : List (Int × Int)) (p : List (Int × Int × Int × Bool)) (s23 : Int) : Option (List RV) := match decide (s23 < (p.length : Int)) with | true => (match getI p s23 with | some x1 => (match decide (x1.1 < 0) with | true => some [RV.d .bool false] | false => (match decide (x1.1 ≥ (l.length : Int)) with | true => some [RV.d .bool false] | false => (match decide (onP w h gap l (x1.1, (x1.2.1, (x1.2.2.1, x1.2.2.2)))) with | true => (match !(onF w h gap l (x1.1, (x1.2.1, (x1.2.2.1, x1.2.2.2)))) with | true => some [RV.d .bool false] | false => (match decide ((0 : Int) ≤ 0 ∧ 0 ≤ s23 ∧ s23 ≤ (p.length : Int)) with | true => k 36 (cva_h36 w h gap l p s23 x1 0) | false => none)) | false => none))) | none => none) | false => some [RV.d .bool true]
theorem cva_h14_eq (k : Nat → Cfg → Option (List RV)) (w : Int) (h : Int) (gap : Int) (l : List (Int × Int)) (p : List (Int × Int × Int × Bool)) (s23 : Int) : go Try.prog ft tys env2 cva_nt k 4000 { cva_h14 w h gap l p s23 with K := .lp 14 :: (cva_h14 w h gap l p s23).K } (.node 15) = cva_h14_t k w h gap l p s23 := by kernel_rfl
theorem cva_h14_s (w : Int) (h : Int) (gap : Int) (l : List (Int × Int)) (p : List (Int × Int × Int × Bool)) (s23 : Int) {rX : List RV} (hX : ∃ nX, cva_h14_t (cva_C.k nX) w h gap l p s23 = some rX) : cva_C.Runs 14 (cva_h14 w h gap l p s23) rX := by
  obtain ⟨nX, hX⟩ := hX
  exact ⟨nX + 1, (cva_h14_eq _ w h gap l p s23).trans hX⟩
def cva_h36_t (k : Nat → Cfg → Option (List RV)) (w : Int) (h : Int) (gap : Int) (l : List (Int × Int)) (p : List (Int × Int × Int × Bool)) (s23 : Int) (x1 : Int × Int × Int × Bool) (s51 : Int) : Option (List RV) := match decide (s51 < (((p.take (s23).toNat).drop (0 : Int).toNat).length : Int)) with | true => (match getI ((p.take (s23).toNat).drop (0 : Int).toNat) s51 with | some x2 => (match x1.1 == x2.1 with | true => some [RV.d .bool false] | false => (match decide (apP gap l (x1.1, (x1.2.1, (x1.2.2.1, x1.2.2.2))) (x2.1, (x2.2.1, (x2.2.2.1, x2.2.2.2)))) with | true => (match !(apF gap l (x1.1, (x1.2.1, (x1.2.2.1, x1.2.2.2))) (x2.1, (x2.2.1, (x2.2.2.1, x2.2.2.2)))) with | true => some [RV.d .bool false] | false => k 36 (cva_h36 w h gap l p s23 x1 (IntKind.i64.wrap (s51 + 1)))) | false => none)) | none => none) | false => k 14 (cva_h14 w h gap l p (IntKind.i64.wrap (s23 + 1)))
theorem cva_h36_eq (k : Nat → Cfg → Option (List RV)) (w : Int) (h : Int) (gap : Int) (l : List (Int × Int)) (p : List (Int × Int × Int × Bool)) (s23 : Int) (x1 : Int × Int × Int × Bool) (s51 : Int) : go Try.prog ft tys env2 cva_nt k 4000 { cva_h36 w h gap l p s23 x1 s51 with K := .lp 36 :: (cva_h36 w h gap l p s23 x1 s51).K } (.node 37) = cva_h36_t k w h gap l p s23 x1 s51 := by kernel_rfl
theorem cva_h36_s (w : Int) (h : Int) (gap : Int) (l : List (Int × Int)) (p : List (Int × Int × Int × Bool)) (s23 : Int) (x1 : Int × Int × Int × Bool) (s51 : Int) {rX : List RV} (hX : ∃ nX, cva_h36_t (cva_C.k nX) w h gap l p s23 x1 s51 = some rX) : cva_C.Runs 36 (cva_h36 w h gap l p s23 x1 s51) rX := by
  obtain ⟨nX, hX⟩ := hX
  exact ⟨nX + 1, (cva_h36_eq _ w h gap l p s23 x1 s51).trans hX⟩
def rva_nt : NT := [((27, 14), { keep := [0, 1, 2, 3, 4, 11], hl := 0 }), ((27, 44), { keep := [0, 1, 2, 3, 4, 11, 12, 13, 14], hl := 0 })]
noncomputable def rva_C : Ctx := ⟨Try.prog, ft, tys, env2, rva_nt⟩
def rva_h14 (w : Int) (h : Int) (gap : Int) (l : List (Int × Int)) (p : List (Int × Int × Int × Bool)) (s11 : Int) : Cfg := ⟨27, [.blk 0, .seq 68], [(0, SI w), (1, SI h), (2, SI gap), (3, .d (.sl (.st (.pair (.int .i64) (.int .i64)))) l), (4, .d (.sl (.st (.pair (.int .i64) (.pair (.int .i64) (.pair (.int .i64) .bool))))) p), (11, SI s11)], [], 0, []⟩
def rva_h44 (w : Int) (h : Int) (gap : Int) (l : List (Int × Int)) (p : List (Int × Int × Int × Bool)) (s11 : Int) (x5 : Int × Int × Int × Bool) (s14 : Int) : Cfg := ⟨27, [.blk 2, .blk 1, .seq 67, .lp 14, .blk 0, .seq 68], [(0, SI w), (1, SI h), (2, SI gap), (3, .d (.sl (.st (.pair (.int .i64) (.int .i64)))) l), (4, .d (.sl (.st (.pair (.int .i64) (.pair (.int .i64) (.pair (.int .i64) .bool))))) p), (11, SI s11), (12, SI ((sizeF l x5).1)), (13, SI ((sizeF l x5).2)), (14, SI s14)], [], 0, []⟩
def rva_t (k : Nat → Cfg → Option (List RV)) (w : Int) (h : Int) (gap : Int) (l : List (Int × Int)) (p : List (Int × Int × Int × Bool)) : Option (List RV) := match !(admF w h gap l) with | true => some [RV.d .bool false] | false => k 14 (rva_h14 w h gap l p 0)
theorem rva_eq (k : Nat → Cfg → Option (List RV)) (w : Int) (h : Int) (gap : Int) (l : List (Int × Int)) (p : List (Int × Int × Int × Bool)) : go Try.prog ft tys env2 rva_nt k 4000 (start 27 [SI w, SI h, SI gap, .d (.sl (.st (.pair (.int .i64) (.int .i64)))) l, .d (.sl (.st (.pair (.int .i64) (.pair (.int .i64) (.pair (.int .i64) .bool))))) p]) (.node 0) = rva_t k w h gap l p := by kernel_rfl
theorem rva_s (w : Int) (h : Int) (gap : Int) (l : List (Int × Int)) (p : List (Int × Int × Int × Bool)) {rX : List RV} (hX : ∃ nX, rva_t (rva_C.k nX) w h gap l p = some rX) : rva_C.Res 27 [SI w, SI h, SI gap, .d (.sl (.st (.pair (.int .i64) (.int .i64)))) l, .d (.sl (.st (.pair (.int .i64) (.pair (.int .i64) (.pair (.int .i64) .bool))))) p] rX := by
  obtain ⟨nX, hX⟩ := hX
  exact ⟨nX, (rva_eq _ w h gap l p).trans hX⟩
def rva_h14_t (k : Nat → Cfg → Option (List RV)) (w : Int) (h : Int) (gap : Int) (l : List (Int × Int)) (p : List (Int × Int × Int × Bool)) (s11 : Int) : Option (List RV) := match decide (s11 < (p.length : Int)) with | true => (match getI p s11 with | some x1 => (match decide (x1.1 < 0) with | true => some [RV.d .bool false] | false => (match getI p s11 with | some x2 => (match decide (x2.1 ≥ (l.length : Int)) with | true => some [RV.d .bool false] | false => (match getI p s11 with | some x3 => (match decide (x3.2.1 < 0) with | true => some [RV.d .bool false] | false => (match decide (x3.2.1 > 10000000) with | true => some [RV.d .bool false] | false => (match getI p s11 with | some x4 => (match decide (x4.2.2.1 < 0) with | true => some [RV.d .bool false] | false => (match decide (x4.2.2.1 > 10000000) with | true => some [RV.d .bool false] | false => (match getI p s11 with | some x5 => (match decide (sizeP l x5) with | true => (match getI p s11 with | some x6 => (match decide (x6.2.1 < gap) with | true => some [RV.d .bool false] | false => (match getI p s11 with | some x7 => (match decide (x7.2.2.1 < gap) with | true => some [RV.d .bool false] | false => (match getI p s11 with | some x8 => (match decide ((IntKind.i64.wrap ((IntKind.i64.wrap (x8.2.1 + ((sizeF l x5).1))) + gap)) > w) with | true => some [RV.d .bool false] | false => (match getI p s11 with | some x9 => (match decide ((IntKind.i64.wrap ((IntKind.i64.wrap (x9.2.2.1 + ((sizeF l x5).2))) + gap)) > h) with | true => some [RV.d .bool false] | false => k 44 (rva_h44 w h gap l p s11 x5 0)) | none => none)) | none => none)) | none => none)) | none => none) | false => none) | none => none))) | none => none))) | none => none)) | none => none)) | none => none) | false => some [RV.d .bool true]
theorem rva_h14_eq (k : Nat → Cfg → Option (List RV)) (w : Int) (h : Int) (gap : Int) (l : List (Int × Int)) (p : List (Int × Int × Int × Bool)) (s11 : Int) : go Try.prog ft tys env2 rva_nt k 4000 { rva_h14 w h gap l p s11 with K := .lp 14 :: (rva_h14 w h gap l p s11).K } (.node 15) = rva_h14_t k w h gap l p s11 := by kernel_rfl
theorem rva_h14_s (w : Int) (h : Int) (gap : Int) (l : List (Int × Int)) (p : List (Int × Int × Int × Bool)) (s11 : Int) {rX : List RV} (hX : ∃ nX, rva_h14_t (rva_C.k nX) w h gap l p s11 = some rX) : rva_C.Runs 14 (rva_h14 w h gap l p s11) rX := by
  obtain ⟨nX, hX⟩ := hX
  exact ⟨nX + 1, (rva_h14_eq _ w h gap l p s11).trans hX⟩
def rva_h44_t (k : Nat → Cfg → Option (List RV)) (w : Int) (h : Int) (gap : Int) (l : List (Int × Int)) (p : List (Int × Int × Int × Bool)) (s11 : Int) (x5 : Int × Int × Int × Bool) (s14 : Int) : Option (List RV) := match decide (s14 < s11) with | true => (match getI p s14 with | some x10 => (match decide (sizeP l x10) with | true => (match getI p s11 with | some x11 => (match getI p s14 with | some x12 => (match decide ((IntKind.i64.wrap ((IntKind.i64.wrap (x11.2.1 + ((sizeF l x5).1))) + gap)) ≤ x12.2.1) with | true => (match getI p s11 with | some x13 => (match getI p s14 with | some x14 => (match decide ((IntKind.i64.wrap ((IntKind.i64.wrap (x13.2.2.1 + ((sizeF l x5).2))) + gap)) ≤ x14.2.2.1) with | true => (match getI p s14 with | some x15 => (match getI p s11 with | some x16 => (match x15.1 == x16.1 with | true => some [RV.d .bool false] | false => (match !true with | true => (match !true with | true => some [RV.d .bool false] | false => k 44 (rva_h44 w h gap l p s11 x5 (IntKind.i64.wrap (s14 + 1)))) | false => k 44 (rva_h44 w h gap l p s11 x5 (IntKind.i64.wrap (s14 + 1))))) | none => none) | none => none) | false => (match getI p s14 with | some x17 => (match getI p s11 with | some x18 => (match getI p s14 with | some x19 => (match getI p s11 with | some x20 => (match x19.1 == x20.1 with | true => some [RV.d .bool false] | false => (match !true with | true => (match !(decide ((IntKind.i64.wrap ((IntKind.i64.wrap (x17.2.2.1 + ((sizeF l x10).2))) + gap)) ≤ x18.2.2.1)) with | true => some [RV.d .bool false] | false => k 44 (rva_h44 w h gap l p s11 x5 (IntKind.i64.wrap (s14 + 1)))) | false => k 44 (rva_h44 w h gap l p s11 x5 (IntKind.i64.wrap (s14 + 1))))) | none => none) | none => none) | none => none) | none => none)) | none => none) | none => none) | false => (match getI p s14 with | some x21 => (match getI p s11 with | some x22 => (match getI p s11 with | some x23 => (match getI p s14 with | some x24 => (match decide ((IntKind.i64.wrap ((IntKind.i64.wrap (x23.2.2.1 + ((sizeF l x5).2))) + gap)) ≤ x24.2.2.1) with | true => (match getI p s14 with | some x25 => (match getI p s11 with | some x26 => (match x25.1 == x26.1 with | true => some [RV.d .bool false] | false => (match !(decide ((IntKind.i64.wrap ((IntKind.i64.wrap (x21.2.1 + ((sizeF l x10).1))) + gap)) ≤ x22.2.1)) with | true => (match !true with | true => some [RV.d .bool false] | false => k 44 (rva_h44 w h gap l p s11 x5 (IntKind.i64.wrap (s14 + 1)))) | false => k 44 (rva_h44 w h gap l p s11 x5 (IntKind.i64.wrap (s14 + 1))))) | none => none) | none => none) | false => (match getI p s14 with | some x27 => (match getI p s11 with | some x28 => (match getI p s14 with | some x29 => (match getI p s11 with | some x30 => (match x29.1 == x30.1 with | true => some [RV.d .bool false] | false => (match !(decide ((IntKind.i64.wrap ((IntKind.i64.wrap (x21.2.1 + ((sizeF l x10).1))) + gap)) ≤ x22.2.1)) with | true => (match !(decide ((IntKind.i64.wrap ((IntKind.i64.wrap (x27.2.2.1 + ((sizeF l x10).2))) + gap)) ≤ x28.2.2.1)) with | true => some [RV.d .bool false] | false => k 44 (rva_h44 w h gap l p s11 x5 (IntKind.i64.wrap (s14 + 1)))) | false => k 44 (rva_h44 w h gap l p s11 x5 (IntKind.i64.wrap (s14 + 1))))) | none => none) | none => none) | none => none) | none => none)) | none => none) | none => none) | none => none) | none => none)) | none => none) | none => none) | false => none) | none => none) | false => k 14 (rva_h14 w h gap l p (IntKind.i64.wrap (s11 + 1)))
theorem rva_h44_eq (k : Nat → Cfg → Option (List RV)) (w : Int) (h : Int) (gap : Int) (l : List (Int × Int)) (p : List (Int × Int × Int × Bool)) (s11 : Int) (x5 : Int × Int × Int × Bool) (s14 : Int) : go Try.prog ft tys env2 rva_nt k 4000 { rva_h44 w h gap l p s11 x5 s14 with K := .lp 44 :: (rva_h44 w h gap l p s11 x5 s14).K } (.node 45) = rva_h44_t k w h gap l p s11 x5 s14 := by kernel_rfl
theorem rva_h44_s (w : Int) (h : Int) (gap : Int) (l : List (Int × Int)) (p : List (Int × Int × Int × Bool)) (s11 : Int) (x5 : Int × Int × Int × Bool) (s14 : Int) {rX : List RV} (hX : ∃ nX, rva_h44_t (rva_C.k nX) w h gap l p s11 x5 s14 = some rX) : rva_C.Runs 44 (rva_h44 w h gap l p s11 x5 s14) rX := by
  obtain ⟨nX, hX⟩ := hX
  exact ⟨nX + 1, (rva_h44_eq _ w h gap l p s11 x5 s14).trans hX⟩
theorem eta4 (x : Pl) : ((x.1, x.2.1, x.2.2.1, x.2.2.2) : Pl) = x := rfl
theorem cva_inner {w h gap : Int} {l : List It} {p : List Pl} (a : Adm w h gap l) (k : Nat) (hk : k < p.length) (hp : vP p) (x : Pl) (hx : plIn l x) (hpre : ∀ y ∈ p.take k, plIn l y) (b : Bool) (hout : cva_C.Runs 14 (cva_h14 w h gap l p ((k + 1 : Nat) : Int)) [.d .bool b]) :
    ∀ d j, k - j = d → j ≤ k → cva_C.Runs 36 (cva_h36 w h gap l p (k : Int) x (j : Int)) [.d .bool (((p.take k).drop j).all (twoF gap l x) && b)] := by
  unfold vP at hp
  have hlen : (p.take k).length = k := by simp; omega
  have hdr : (List.drop (0 : Int).toNat (List.take ((k : Int)).toNat p)) = p.take k := by rw [toNat_nat]; rfl
  intro d
  induction d with
  | zero =>
    intro j hd hj
    refine cva_h36_s _ _ _ _ _ _ _ _ ?_
    unfold cva_h36_t
    rw [hdr, ge_dec (by omega), drop_end (by omega)]
    dsimp only
    rw [wrapS (by omega)]
    exact hout
  | succ d ih =>
    intro j hd hj
    have hlt : j < (p.take k).length := by omega
    have hn := ih (j + 1) (by omega) (by omega)
    have hy := hpre _ (List.getElem_mem hlt)
    refine cva_h36_s _ _ _ _ _ _ _ _ ?_
    unfold cva_h36_t
    rw [hdr, lt_dec hlt, getI_nat, List.getElem?_eq_getElem hlt, drop_get hlt, List.all_cons]
    generalize (p.take k)[j] = y at hy ⊢
    dsimp only
    rw [eta4, eta4, decide_eq_true (show apP gap l x y from ⟨⟨a.g1, a.g2⟩, a.l, hx, hy⟩), wrapS (by omega)]
    unfold twoF at hn ⊢
    cases x.1 == y.1 with
    | true => exact ⟨0, rfl⟩
    | false =>
      cases apF gap l x y with
      | false => exact ⟨0, rfl⟩
      | true => exact hn
theorem cva_loop {w h gap : Int} {l : List It} {p : List Pl} (ha : admF w h gap l = true) (hp : vP p) : ∀ d k, p.length - k = d → k ≤ p.length → (∀ y ∈ p.take k, plIn l y) → cva_C.Runs 14 (cva_h14 w h gap l p (k : Int)) [.d .bool (okL w h gap l (p.take k) (p.drop k))] := by
  have a := adm_of ha
  have hp' := hp
  unfold vP at hp'
  intro d
  induction d with
  | zero =>
    intro k hd hk _
    refine cva_h14_s _ _ _ _ _ _ ⟨0, ?_⟩
    unfold cva_h14_t
    rw [ge_dec (by omega), drop_end (by omega)]
    rfl
  | succ d ih =>
    intro k hd hk hpre
    have hlt : k < p.length := by omega
    have hn := ih (k + 1) (by omega) (by omega)
    have ht := List.take_succ_eq_append_getElem hlt
    have hti := take_in (Q := plIn l) hlt hpre
    refine cva_h14_s _ _ _ _ _ _ ?_
    unfold cva_h14_t
    rw [lt_dec hlt, getI_nat, List.getElem?_eq_getElem hlt, drop_get hlt]
    unfold okL okAt
    rw [← ht]
    generalize p[k] = x at hti ⊢
    dsimp only
    rw [eta4]
    by_cases s0 : x.1 < 0
    · rw [decide_eq_true s0, decide_eq_false (show ¬ 0 ≤ x.1 by omega)]
      exact ⟨0, rfl⟩
    · by_cases s1 : x.1 ≥ (l.length : Int)
      · rw [decide_eq_false s0, decide_eq_true s1, decide_eq_false (show ¬ x.1 < (l.length : Int) by omega), Bool.and_false, Bool.false_and]
        exact ⟨0, rfl⟩
      · have hs : sizeP l x := ⟨by omega, by omega⟩
        rw [decide_eq_false s0, decide_eq_false s1, decide_eq_true (show 0 ≤ x.1 by omega), decide_eq_true (show x.1 < (l.length : Int) by omega), decide_eq_true (show onP w h gap l x from ⟨ha, hs⟩), decide_eq_true (show ((0 : Int) ≤ 0 ∧ (0 : Int) ≤ (k : Int) ∧ (k : Int) ≤ (p.length : Int)) by omega)]
        cases ho : onF w h gap l x with
        | false => exact ⟨0, rfl⟩
        | true =>
          have hx := on_in a hs ho
          have := cva_inner a k hlt hp x hx hpre _ (hn (hti hx)) _ 0 rfl (Nat.zero_le _)
          simp only [List.drop_zero] at this
          simpa [Ctx.Runs] using this
theorem cva_con (w h gap : Int) (l : List It) (p : List Pl) (hp : vP p) : Con Try.prog 26 [SI w, SI h, SI gap, .d (.sl (.st (.pair (.int .i64) (.int .i64)))) l, .d (.sl (.st (.pair (.int .i64) (.pair (.int .i64) (.pair (.int .i64) .bool))))) p] [.d .bool (validF w h gap l p)] := by
  refine Ctx.Res.con (C := cva_C) (ctx_ok env2_ok) ?_ (fn := Try.f26) (by kernel_rfl) (by kernel_rfl)
  refine cva_s _ _ _ _ _ ?_
  unfold cva_t validF
  cases ha : admF w h gap l with
  | false => exact ⟨0, rfl⟩
  | true => exact cva_loop ha hp _ 0 rfl (Nat.zero_le _) (by simp)
theorem rva_inner {w h gap : Int} {l : List It} {p : List Pl} (a : Adm w h gap l) (k : Nat) (hk : k < p.length) (hp : vP p) (x : Pl) (hxk : p[k] = x) (hx : plIn l x) (hpre : ∀ y ∈ p.take k, plIn l y) (b : Bool) (hout : rva_C.Runs 14 (rva_h14 w h gap l p ((k + 1 : Nat) : Int)) [.d .bool b]) :
    ∀ d j, k - j = d → j ≤ k → rva_C.Runs 44 (rva_h44 w h gap l p (k : Int) x (j : Int)) [.d .bool (((p.take k).drop j).all (twoF gap l x) && b)] := by
  unfold vP at hp
  have hlen : (p.take k).length = k := by simp; omega
  intro d
  induction d with
  | zero =>
    intro j hd hj
    refine rva_h44_s _ _ _ _ _ _ _ _ ?_
    unfold rva_h44_t
    rw [ge_dec (by omega), drop_end (by omega)]
    dsimp only
    rw [wrapS (by omega)]
    exact hout
  | succ d ih =>
    intro j hd hj
    have hlt : j < (p.take k).length := by omega
    have hlt' : j < p.length := by omega
    have hn := ih (j + 1) (by omega) (by omega)
    have hy := hpre _ (List.getElem_mem hlt)
    have hyk : (p.take k)[j] = p[j] := by simp
    refine rva_h44_s _ _ _ _ _ _ _ _ ?_
    unfold rva_h44_t
    simp only [lt_dec (show j < k by omega), getI_nat, List.getElem?_eq_getElem hlt', List.getElem?_eq_getElem hk, hxk]
    rw [drop_get hlt, List.all_cons]
    rw [hyk] at hy ⊢
    generalize p[j] = y at hy ⊢
    have bx := size_bd a.l hx.1
    have by' := size_bd a.l hy.1
    obtain ⟨hsx, x1, x2, x3, x4⟩ := hx
    obtain ⟨hsy, y1, y2, y3, y4⟩ := hy
    obtain ⟨a1, a2, a3, a4, a5, a6, a7, a8⟩ := a
    rw [decide_eq_true hsy]
    dsimp only
    simp only [wrap64 (x := x.2.1 + (sizeF l x).1) (by omega) (by omega), wrap64 (x := x.2.2.1 + (sizeF l x).2) (by omega) (by omega), wrap64 (x := y.2.1 + (sizeF l y).1) (by omega) (by omega), wrap64 (x := y.2.2.1 + (sizeF l y).2) (by omega) (by omega),
      wrap64 (x := x.2.1 + (sizeF l x).1 + gap) (by omega) (by omega), wrap64 (x := x.2.2.1 + (sizeF l x).2 + gap) (by omega) (by omega), wrap64 (x := y.2.1 + (sizeF l y).1 + gap) (by omega) (by omega), wrap64 (x := y.2.2.1 + (sizeF l y).2 + gap) (by omega) (by omega), wrapS (show j + 1 ≤ 9223372036854775807 by omega)]
    unfold twoF at hn ⊢
    unfold apF at hn ⊢
    rw [show (y.1 == x.1) = (x.1 == y.1) from Bool.beq_comm ..]
    generalize decide (x.2.1 + (sizeF l x).fst + gap ≤ y.2.1) = b1
    generalize decide (y.2.1 + (sizeF l y).fst + gap ≤ x.2.1) = b2
    generalize decide (x.2.2.1 + (sizeF l x).snd + gap ≤ y.2.2.1) = b3
    generalize decide (y.2.2.1 + (sizeF l y).snd + gap ≤ x.2.2.1) = b4
    cases x.1 == y.1 <;> cases b1 <;> cases b2 <;> cases b3 <;> cases b4 <;> first | exact ⟨0, rfl⟩ | exact hn
theorem rva_loop {w h gap : Int} {l : List It} {p : List Pl} (ha : admF w h gap l = true) (hp : vP p) : ∀ d k, p.length - k = d → k ≤ p.length → (∀ y ∈ p.take k, plIn l y) → rva_C.Runs 14 (rva_h14 w h gap l p (k : Int)) [.d .bool (okL w h gap l (p.take k) (p.drop k))] := by
  have a := adm_of ha
  have hp' := hp
  unfold vP at hp'
  intro d
  induction d with
  | zero =>
    intro k hd hk _
    refine rva_h14_s _ _ _ _ _ _ ⟨0, ?_⟩
    unfold rva_h14_t
    rw [ge_dec (by omega), drop_end (by omega)]
    rfl
  | succ d ih =>
    intro k hd hk hpre
    have hlt : k < p.length := by omega
    have hn := ih (k + 1) (by omega) (by omega)
    have ht := List.take_succ_eq_append_getElem hlt
    have hti := take_in (Q := plIn l) hlt hpre
    have hin := fun x e hx => rva_inner (b := okL w h gap l (p.take (k + 1)) (p.drop (k + 1))) a k hlt hp x e hx hpre
    refine rva_h14_s _ _ _ _ _ _ ?_
    unfold rva_h14_t
    simp only [lt_dec hlt, getI_nat, List.getElem?_eq_getElem hlt]
    rw [drop_get hlt]
    unfold okL okAt
    rw [← ht]
    generalize p[k] = x at hti hin ⊢
    by_cases s0 : x.1 < 0
    · rw [decide_eq_true s0, decide_eq_false (show ¬ 0 ≤ x.1 by omega)]
      exact ⟨0, rfl⟩
    by_cases s1 : x.1 ≥ (l.length : Int)
    · rw [decide_eq_false s0, decide_eq_true s1, decide_eq_false (show ¬ x.1 < (l.length : Int) by omega), Bool.and_false, Bool.false_and]
      exact ⟨0, rfl⟩
    have hs : sizeP l x := ⟨by omega, by omega⟩
    rw [decide_eq_false s0, decide_eq_false s1, decide_eq_true (show 0 ≤ x.1 by omega), decide_eq_true (show x.1 < (l.length : Int) by omega), decide_eq_true hs, Bool.true_and, Bool.true_and]
    have bd := size_bd a.l hs
    cases ho : onF w h gap l x with
    | true =>
      have hx := on_in a hs ho
      have := hin x rfl hx (hn (hti hx)) _ 0 rfl (Nat.zero_le _)
      unfold onF at ho
      simp only [Bool.and_eq_true, Bool.not_eq_true', decide_eq_true_eq, decide_eq_false_iff_not] at ho
      obtain ⟨⟨⟨⟨⟨o1, o2⟩, o3⟩, o4⟩, o5⟩, o6⟩ := ho
      obtain ⟨a1, a2, a3, a4, a5, a6, a7, a8⟩ := a
      rw [decide_eq_false (show ¬ x.2.1 < 0 by omega), decide_eq_false (show ¬ x.2.1 > 10000000 by omega), decide_eq_false (show ¬ x.2.2.1 < 0 by omega), decide_eq_false (show ¬ x.2.2.1 > 10000000 by omega), decide_eq_false o1, decide_eq_false o2,
        wrap64 (x := x.2.1 + _) (by omega) (by omega), wrap64 (x := x.2.2.1 + _) (by omega) (by omega), wrap64 (by omega) (by omega), wrap64 (by omega) (by omega), decide_eq_false (show ¬ x.2.1 + (sizeF l x).1 + gap > w by omega), decide_eq_false (show ¬ x.2.2.1 + (sizeF l x).2 + gap > h by omega)]
      simp only [List.drop_zero] at this
      simpa [Ctx.Runs] using this
    | false =>
      obtain ⟨a1, a2, a3, a4, a5, a6, a7, a8⟩ := a
      cases c1 : decide (x.2.1 < 0) with
      | true => exact ⟨0, rfl⟩
      | false =>
      cases c2 : decide (x.2.1 > 10000000) with
      | true => exact ⟨0, rfl⟩
      | false =>
      cases c3 : decide (x.2.2.1 < 0) with
      | true => exact ⟨0, rfl⟩
      | false =>
      cases c4 : decide (x.2.2.1 > 10000000) with
      | true => exact ⟨0, rfl⟩
      | false =>
      cases c5 : decide (x.2.1 < gap) with
      | true => exact ⟨0, rfl⟩
      | false =>
      cases c6 : decide (x.2.2.1 < gap) with
      | true => exact ⟨0, rfl⟩
      | false =>
        have c1 := of_decide_eq_false c1
        have c2 := of_decide_eq_false c2
        have c3 := of_decide_eq_false c3
        have c4 := of_decide_eq_false c4
        have d5 := of_decide_eq_false c5
        have d6 := of_decide_eq_false c6
        dsimp only
        rw [wrap64 (x := x.2.1 + _) (by omega) (by omega), wrap64 (x := x.2.2.1 + _) (by omega) (by omega), wrap64 (by omega) (by omega), wrap64 (by omega) (by omega)]
        cases c7 : decide (x.2.1 + (sizeF l x).1 + gap > w) with
        | true => exact ⟨0, rfl⟩
        | false =>
        cases c8 : decide (x.2.2.1 + (sizeF l x).2 + gap > h) with
        | true => exact ⟨0, rfl⟩
        | false =>
          have c7 := of_decide_eq_false c7
          have c8 := of_decide_eq_false c8
          unfold onF at ho
          rw [c5, c6, decide_eq_false (show ¬ x.2.1 > w by omega), decide_eq_false (show ¬ x.2.2.1 > h by omega), decide_eq_true (show x.2.1 + (sizeF l x).1 + gap ≤ w by omega), decide_eq_true (show x.2.2.1 + (sizeF l x).2 + gap ≤ h by omega)] at ho
          cases ho
theorem rva_con (w h gap : Int) (l : List It) (p : List Pl) (hp : vP p) : Con Try.prog 27 [SI w, SI h, SI gap, .d (.sl (.st (.pair (.int .i64) (.int .i64)))) l, .d (.sl (.st (.pair (.int .i64) (.pair (.int .i64) (.pair (.int .i64) .bool))))) p] [.d .bool (validF w h gap l p)] := by
  refine Ctx.Res.con (C := rva_C) (ctx_ok env2_ok) ?_ (fn := Try.f27) (by kernel_rfl) (by kernel_rfl)
  refine rva_s _ _ _ _ _ ?_
  unfold rva_t validF
  cases ha : admF w h gap l with
  | false => exact ⟨0, rfl⟩
  | true => exact rva_loop ha hp _ 0 rfl (Nat.zero_le _) (by simp)
end Go.Proofs.Ytfkidjkpgliffaa

/- nest: admissible, size, on, apart, and the reference's Admissible and size. -/
import Derived.Test.YtfkidjkpgliffaaPuW
import Derived.Test.YtfkidjkpgliffaaEnvKit
namespace Go.Proofs.Ytfkidjkpgliffaa
open Go.RowKit
abbrev It := Int × Int
abbrev Pl := Int × Int × Int × Bool
def lenOk (n : Int) : Bool := decide (n ≥ 1) && decide (n ≤ 10000000)
def itOk (x : It) : Bool := lenOk x.1 && lenOk x.2
def admF (w h gap : Int) (l : List It) : Bool := lenOk w && lenOk h && !decide (gap < 0) && !decide (gap > 10000000) && !decide ((l.length : Int) > 50) && l.all itOk
def sizeP (l : List It) (p : Pl) : Prop := 0 ≤ p.1 ∧ p.1 < (l.length : Int)
instance (l : List It) (p : Pl) : Decidable (sizeP l p) := by unfold sizeP; infer_instance
def sizeF (l : List It) (p : Pl) : Int × Int := bif p.2.2.2 then ((l.getD p.1.toNat (0, 0)).2, (l.getD p.1.toNat (0, 0)).1) else ((l.getD p.1.toNat (0, 0)).1, (l.getD p.1.toNat (0, 0)).2)
def onP (w h gap : Int) (l : List It) (p : Pl) : Prop := admF w h gap l = true ∧ sizeP l p
instance (w h gap : Int) (l : List It) (p : Pl) : Decidable (onP w h gap l p) := by unfold onP; infer_instance
def onF (w h gap : Int) (l : List It) (p : Pl) : Bool := !decide (p.2.1 < gap) && !decide (p.2.2.1 < gap) && !decide (p.2.1 > w) && !decide (p.2.2.1 > h) && decide (p.2.1 + (sizeF l p).1 + gap ≤ w) && decide (p.2.2.1 + (sizeF l p).2 + gap ≤ h)
def plIn (l : List It) (p : Pl) : Prop := sizeP l p ∧ 0 ≤ p.2.1 ∧ p.2.1 ≤ 10000000 ∧ 0 ≤ p.2.2.1 ∧ p.2.2.1 ≤ 10000000
instance (l : List It) (p : Pl) : Decidable (plIn l p) := by unfold plIn; infer_instance
def apP (gap : Int) (l : List It) (p q : Pl) : Prop := (0 ≤ gap ∧ gap ≤ 10000000) ∧ l.all itOk = true ∧ plIn l p ∧ plIn l q
instance (gap : Int) (l : List It) (p q : Pl) : Decidable (apP gap l p q) := by unfold apP; infer_instance
def apF (gap : Int) (l : List It) (p q : Pl) : Bool := decide (p.2.1 + (sizeF l p).1 + gap ≤ q.2.1) || decide (q.2.1 + (sizeF l q).1 + gap ≤ p.2.1) || decide (p.2.2.1 + (sizeF l p).2 + gap ≤ q.2.2.1) || decide (q.2.2.1 + (sizeF l q).2 + gap ≤ p.2.2.1)
structure Adm (w h gap : Int) (l : List It) : Prop where
  w1 : 1 ≤ w
  w2 : w ≤ 10000000
  h1 : 1 ≤ h
  h2 : h ≤ 10000000
  g1 : 0 ≤ gap
  g2 : gap ≤ 10000000
  n : l.length ≤ 50
  l : l.all itOk = true
theorem adm_of {w h gap : Int} {l : List It} (a : admF w h gap l = true) : Adm w h gap l := by
  unfold admF lenOk at a
  simp only [Bool.and_eq_true, Bool.not_eq_true', decide_eq_true_eq, decide_eq_false_iff_not] at a
  obtain ⟨⟨⟨⟨⟨⟨a1, a2⟩, a3, a4⟩, a5⟩, a6⟩, a7⟩, a8⟩ := a
  exact ⟨by omega, by omega, by omega, by omega, by omega, by omega, by omega, a8⟩
theorem size_bd {l : List It} (hl : l.all itOk = true) {p : Pl} (hp : sizeP l p) : 1 ≤ (sizeF l p).1 ∧ (sizeF l p).1 ≤ 10000000 ∧ 1 ≤ (sizeF l p).2 ∧ (sizeF l p).2 ≤ 10000000 := by
  obtain ⟨h0, h1⟩ := hp
  have hlt : p.1.toNat < l.length := by omega
  have hm : l.getD p.1.toNat (0, 0) ∈ l := by rw [List.getD_eq_getElem?_getD, List.getElem?_eq_getElem hlt]; exact List.getElem_mem hlt
  have := List.all_eq_true.1 hl _ hm
  unfold itOk lenOk at this
  simp only [Bool.and_eq_true, decide_eq_true_eq] at this
  unfold sizeF
  cases p.2.2.2 <;> simp only [cond_true, cond_false] <;> omega
theorem getI_in {α : Type} {xs : List α} {t : Int} (d : α) (h0 : 0 ≤ t) (h1 : t < (xs.length : Int)) : getI xs t = some (xs.getD t.toNat d) := by
  have : t = (t.toNat : Int) := by omega
  rw [this, getI_nat, toNat_nat, List.getElem?_eq_getElem (by omega), List.getD_eq_getElem?_getD, List.getElem?_eq_getElem (by omega)]
  rfl
def cad_nt : NT := [((94, 6), { keep := [0, 1, 7, 8], hl := 0 })]
noncomputable def cad_C : Ctx := ⟨Try.prog, ft, tys, [], cad_nt⟩
def cad_h94_6 (w : Int) (h : Int) (gap : Int) (l : List (Int × Int)) (s94_8 : Int) : Cfg := ⟨94, [.blk 0, .seq 25], [(0, .d (.sl (.st (.pair (.int .i64) (.int .i64)))) l), (1, .clo 85 []), (7, SI (l.length : Int)), (8, SI s94_8)], [], 0, [⟨84, [.seq 4], 3, 2, [(6, .clo 85 []), (5, .d (.sl (.st (.pair (.int .i64) (.int .i64)))) l), (4, SB false), (0, .d (.sl (.st (.pair (.int .i64) (.int .i64)))) l), (1, .clo 85 [])], 0⟩, ⟨55, [.seq 12], 11, 1, [(30, .d (.sl (.st (.pair (.int .i64) (.int .i64)))) l), (29, SB (decide ((l.length : Int) > 50))), (28, SB (decide ((l.length : Int) > 50))), (25, SB false), (27, SI (l.length : Int)), (26, .d (.sl (.st (.pair (.int .i64) (.int .i64)))) l), (24, SB (decide (gap > 10000000))), (23, SB (decide (gap > 10000000))), (21, SB false), (22, SI gap), (20, SB (decide (gap < 0))), (19, SB (decide (gap < 0))), (17, SB false), (18, SI gap), (16, SB (!(decide (h ≤ 10000000)))), (15, SB (!(decide (h ≤ 10000000)))), (12, SB false), (14, SB (decide (h ≤ 10000000))), (13, SI h), (11, SB (!(decide (w ≤ 10000000)))), (10, SB (decide (w ≤ 10000000))), (9, SI w), (8, SB false), (0, SI w), (1, SI h), (2, SI gap), (3, .d (.sl (.st (.pair (.int .i64) (.int .i64)))) l)], 0⟩]⟩
def cad_t (k : Nat → Cfg → Option (List RV)) (w : Int) (h : Int) (gap : Int) (l : List (Int × Int)) : Option (List RV) := match decide (w ≥ 1) with | true => (match !(decide (w ≤ 10000000)) with | true => some [RV.d .bool false] | false => (match decide (h ≥ 1) with | true => (match !(decide (h ≤ 10000000)) with | true => some [RV.d .bool false] | false => (match decide (gap < 0) with | true => some [RV.d .bool false] | false => (match decide (gap > 10000000) with | true => some [RV.d .bool false] | false => (match decide ((l.length : Int) > 50) with | true => some [RV.d .bool false] | false => k 6 (cad_h94_6 w h gap l 0))))) | false => (match !false with | true => some [RV.d .bool false] | false => (match decide (gap < 0) with | true => some [RV.d .bool false] | false => (match decide (gap > 10000000) with | true => some [RV.d .bool false] | false => (match decide ((l.length : Int) > 50) with | true => some [RV.d .bool false] | false => k 6 (cad_h94_6 w h gap l 0))))))) | false => (match !false with | true => some [RV.d .bool false] | false => (match decide (h ≥ 1) with | true => (match !(decide (h ≤ 10000000)) with | true => some [RV.d .bool false] | false => (match decide (gap < 0) with | true => some [RV.d .bool false] | false => (match decide (gap > 10000000) with | true => some [RV.d .bool false] | false => (match decide ((l.length : Int) > 50) with | true => some [RV.d .bool false] | false => k 6 (cad_h94_6 w h gap l 0))))) | false => (match !false with | true => some [RV.d .bool false] | false => (match decide (gap < 0) with | true => some [RV.d .bool false] | false => (match decide (gap > 10000000) with | true => some [RV.d .bool false] | false => (match decide ((l.length : Int) > 50) with | true => some [RV.d .bool false] | false => k 6 (cad_h94_6 w h gap l 0)))))))
theorem cad_eq (k : Nat → Cfg → Option (List RV)) (w : Int) (h : Int) (gap : Int) (l : List (Int × Int)) : go Try.prog ft tys [] cad_nt k 4000 (start 55 [SI w, SI h, SI gap, .d (.sl (.st (.pair (.int .i64) (.int .i64)))) l]) (.node 0) = cad_t k w h gap l := by kernel_rfl
theorem cad_s (w : Int) (h : Int) (gap : Int) (l : List (Int × Int)) {rX : List RV} (hX : ∃ nX, cad_t (cad_C.k nX) w h gap l = some rX) : cad_C.Res 55 [SI w, SI h, SI gap, .d (.sl (.st (.pair (.int .i64) (.int .i64)))) l] rX := by
  obtain ⟨nX, hX⟩ := hX
  exact ⟨nX, (cad_eq _ w h gap l).trans hX⟩
def cad_h94_6_t (k : Nat → Cfg → Option (List RV)) (w : Int) (h : Int) (gap : Int) (l : List (Int × Int)) (s94_8 : Int) : Option (List RV) := match decide (s94_8 < (l.length : Int)) with | true => (match getI l s94_8 with | some x1 => (match decide (x1.1 ≥ 1) with | true => (match !(decide (x1.1 ≤ 10000000)) with | true => some [RV.d .bool (!(decide (s94_8 ≥ 0)))] | false => (match decide (x1.2 ≥ 1) with | true => (match !(decide (x1.2 ≤ 10000000)) with | true => some [RV.d .bool (!(decide (s94_8 ≥ 0)))] | false => k 6 (cad_h94_6 w h gap l (IntKind.i64.wrap (s94_8 + 1)))) | false => (match !false with | true => some [RV.d .bool (!(decide (s94_8 ≥ 0)))] | false => k 6 (cad_h94_6 w h gap l (IntKind.i64.wrap (s94_8 + 1)))))) | false => (match !false with | true => some [RV.d .bool (!(decide (s94_8 ≥ 0)))] | false => (match decide (x1.2 ≥ 1) with | true => (match !(decide (x1.2 ≤ 10000000)) with | true => some [RV.d .bool (!(decide (s94_8 ≥ 0)))] | false => k 6 (cad_h94_6 w h gap l (IntKind.i64.wrap (s94_8 + 1)))) | false => (match !false with | true => some [RV.d .bool (!(decide (s94_8 ≥ 0)))] | false => k 6 (cad_h94_6 w h gap l (IntKind.i64.wrap (s94_8 + 1))))))) | none => none) | false => some [RV.d .bool (!(decide ((-1) ≥ 0)))]
theorem cad_h94_6_eq (k : Nat → Cfg → Option (List RV)) (w : Int) (h : Int) (gap : Int) (l : List (Int × Int)) (s94_8 : Int) : go Try.prog ft tys [] cad_nt k 4000 { cad_h94_6 w h gap l s94_8 with K := .lp 6 :: (cad_h94_6 w h gap l s94_8).K } (.node 7) = cad_h94_6_t k w h gap l s94_8 := by kernel_rfl
theorem cad_h94_6_s (w : Int) (h : Int) (gap : Int) (l : List (Int × Int)) (s94_8 : Int) {rX : List RV} (hX : ∃ nX, cad_h94_6_t (cad_C.k nX) w h gap l s94_8 = some rX) : cad_C.Runs 6 (cad_h94_6 w h gap l s94_8) rX := by
  obtain ⟨nX, hX⟩ := hX
  exact ⟨nX + 1, (cad_h94_6_eq _ w h gap l s94_8).trans hX⟩
def rad_nt : NT := [((30, 14), { keep := [3, 9], hl := 0 })]
noncomputable def rad_C : Ctx := ⟨Try.prog, ft, tys, [], rad_nt⟩
def rad_h14 (l : List (Int × Int)) (s9 : Int) : Cfg := ⟨30, [.blk 0, .seq 31], [(3, .d (.sl (.st (.pair (.int .i64) (.int .i64)))) l), (9, SI s9)], [], 0, []⟩
def rad_t (k : Nat → Cfg → Option (List RV)) (w : Int) (h : Int) (gap : Int) (l : List (Int × Int)) : Option (List RV) := match decide (w ≥ 1) with | true => (match !(decide (w ≤ 10000000)) with | true => some [RV.d .bool false] | false => (match decide (h ≥ 1) with | true => (match !(decide (h ≤ 10000000)) with | true => some [RV.d .bool false] | false => (match decide (gap < 0) with | true => some [RV.d .bool false] | false => (match decide (gap > 10000000) with | true => some [RV.d .bool false] | false => (match decide ((l.length : Int) > 50) with | true => some [RV.d .bool false] | false => k 14 (rad_h14 l 0))))) | false => (match !false with | true => some [RV.d .bool false] | false => (match decide (gap < 0) with | true => some [RV.d .bool false] | false => (match decide (gap > 10000000) with | true => some [RV.d .bool false] | false => (match decide ((l.length : Int) > 50) with | true => some [RV.d .bool false] | false => k 14 (rad_h14 l 0))))))) | false => (match !false with | true => some [RV.d .bool false] | false => (match decide (h ≥ 1) with | true => (match !(decide (h ≤ 10000000)) with | true => some [RV.d .bool false] | false => (match decide (gap < 0) with | true => some [RV.d .bool false] | false => (match decide (gap > 10000000) with | true => some [RV.d .bool false] | false => (match decide ((l.length : Int) > 50) with | true => some [RV.d .bool false] | false => k 14 (rad_h14 l 0))))) | false => (match !false with | true => some [RV.d .bool false] | false => (match decide (gap < 0) with | true => some [RV.d .bool false] | false => (match decide (gap > 10000000) with | true => some [RV.d .bool false] | false => (match decide ((l.length : Int) > 50) with | true => some [RV.d .bool false] | false => k 14 (rad_h14 l 0)))))))
theorem rad_eq (k : Nat → Cfg → Option (List RV)) (w : Int) (h : Int) (gap : Int) (l : List (Int × Int)) : go Try.prog ft tys [] rad_nt k 4000 (start 30 [SI w, SI h, SI gap, .d (.sl (.st (.pair (.int .i64) (.int .i64)))) l]) (.node 0) = rad_t k w h gap l := by kernel_rfl
theorem rad_s (w : Int) (h : Int) (gap : Int) (l : List (Int × Int)) {rX : List RV} (hX : ∃ nX, rad_t (rad_C.k nX) w h gap l = some rX) : rad_C.Res 30 [SI w, SI h, SI gap, .d (.sl (.st (.pair (.int .i64) (.int .i64)))) l] rX := by
  obtain ⟨nX, hX⟩ := hX
  exact ⟨nX, (rad_eq _ w h gap l).trans hX⟩
def rad_h14_t (k : Nat → Cfg → Option (List RV)) (l : List (Int × Int)) (s9 : Int) : Option (List RV) := match decide (s9 < (l.length : Int)) with | true => (match getI l s9 with | some x1 => (match decide (x1.1 ≥ 1) with | true => (match !(decide (x1.1 ≤ 10000000)) with | true => some [RV.d .bool false] | false => (match getI l s9 with | some x2 => (match decide (x2.2 ≥ 1) with | true => (match !(decide (x2.2 ≤ 10000000)) with | true => some [RV.d .bool false] | false => k 14 (rad_h14 l (IntKind.i64.wrap (s9 + 1)))) | false => (match !false with | true => some [RV.d .bool false] | false => k 14 (rad_h14 l (IntKind.i64.wrap (s9 + 1))))) | none => none)) | false => (match !false with | true => some [RV.d .bool false] | false => (match getI l s9 with | some x3 => (match decide (x3.2 ≥ 1) with | true => (match !(decide (x3.2 ≤ 10000000)) with | true => some [RV.d .bool false] | false => k 14 (rad_h14 l (IntKind.i64.wrap (s9 + 1)))) | false => (match !false with | true => some [RV.d .bool false] | false => k 14 (rad_h14 l (IntKind.i64.wrap (s9 + 1))))) | none => none))) | none => none) | false => some [RV.d .bool true]
theorem rad_h14_eq (k : Nat → Cfg → Option (List RV)) (l : List (Int × Int)) (s9 : Int) : go Try.prog ft tys [] rad_nt k 4000 { rad_h14 l s9 with K := .lp 14 :: (rad_h14 l s9).K } (.node 15) = rad_h14_t k l s9 := by kernel_rfl
theorem rad_h14_s (l : List (Int × Int)) (s9 : Int) {rX : List RV} (hX : ∃ nX, rad_h14_t (rad_C.k nX) l s9 = some rX) : rad_C.Runs 14 (rad_h14 l s9) rX := by
  obtain ⟨nX, hX⟩ := hX
  exact ⟨nX + 1, (rad_h14_eq _ l s9).trans hX⟩
def csz_nt : NT := []
noncomputable def csz_C : Ctx := ⟨Try.prog, ft, tys, [], csz_nt⟩
def csz_t (_k : Nat → Cfg → Option (List RV)) (l : List (Int × Int)) (p : Int × Int × Int × Bool) : Option (List RV) := match getI l p.1 with | some x1 => (match p.2.2.2 with | true => some [RV.d (.int .i64) x1.2, RV.d (.int .i64) x1.1] | false => some [RV.d (.int .i64) x1.1, RV.d (.int .i64) x1.2]) | none => none
theorem csz_eq (k : Nat → Cfg → Option (List RV)) (l : List (Int × Int)) (p : Int × Int × Int × Bool) : go Try.prog ft tys [] csz_nt k 4000 (start 58 [.d (.sl (.st (.pair (.int .i64) (.int .i64)))) l, .d (.st (.pair (.int .i64) (.pair (.int .i64) (.pair (.int .i64) .bool)))) p]) (.node 0) = csz_t k l p := by kernel_rfl
theorem csz_s (l : List (Int × Int)) (p : Int × Int × Int × Bool) {rX : List RV} (hX : ∃ nX, csz_t (csz_C.k nX) l p = some rX) : csz_C.Res 58 [.d (.sl (.st (.pair (.int .i64) (.int .i64)))) l, .d (.st (.pair (.int .i64) (.pair (.int .i64) (.pair (.int .i64) .bool)))) p] rX := by
  obtain ⟨nX, hX⟩ := hX
  exact ⟨nX, (csz_eq _ l p).trans hX⟩
def rsz_nt : NT := []
noncomputable def rsz_C : Ctx := ⟨Try.prog, ft, tys, [], rsz_nt⟩
def rsz_t (_k : Nat → Cfg → Option (List RV)) (l : List (Int × Int)) (p : Int × Int × Int × Bool) : Option (List RV) := match p.2.2.2 with | true => (match getI l p.1 with | some x1 => (match getI l p.1 with | some x2 => some [RV.d (.int .i64) x1.2, RV.d (.int .i64) x2.1] | none => none) | none => none) | false => (match getI l p.1 with | some x3 => (match getI l p.1 with | some x4 => some [RV.d (.int .i64) x3.1, RV.d (.int .i64) x4.2] | none => none) | none => none)
theorem rsz_eq (k : Nat → Cfg → Option (List RV)) (l : List (Int × Int)) (p : Int × Int × Int × Bool) : go Try.prog ft tys [] rsz_nt k 4000 (start 61 [.d (.sl (.st (.pair (.int .i64) (.int .i64)))) l, .d (.st (.pair (.int .i64) (.pair (.int .i64) (.pair (.int .i64) .bool)))) p]) (.node 0) = rsz_t k l p := by kernel_rfl
theorem rsz_s (l : List (Int × Int)) (p : Int × Int × Int × Bool) {rX : List RV} (hX : ∃ nX, rsz_t (rsz_C.k nX) l p = some rX) : rsz_C.Res 61 [.d (.sl (.st (.pair (.int .i64) (.int .i64)))) l, .d (.st (.pair (.int .i64) (.pair (.int .i64) (.pair (.int .i64) .bool)))) p] rX := by
  obtain ⟨nX, hX⟩ := hX
  exact ⟨nX, (rsz_eq _ l p).trans hX⟩
theorem cad_loop (w h gap : Int) (l : List It) (hb : l.length ≤ 50) : ∀ d k, l.length - k = d → k ≤ l.length → cad_C.Runs 6 (cad_h94_6 w h gap l (k : Int)) [.d .bool ((l.drop k).all itOk)] := by
  intro d
  induction d with
  | zero =>
    intro k hd hk
    refine cad_h94_6_s _ _ _ _ _ ⟨0, ?_⟩
    unfold cad_h94_6_t
    rw [ge_dec (by omega), drop_end (by omega)]
    rfl
  | succ d ih =>
    intro k hd hk
    have hlt : k < l.length := by omega
    have hn := ih (k + 1) (by omega) (by omega)
    refine cad_h94_6_s _ _ _ _ _ ?_
    unfold cad_h94_6_t
    rw [lt_dec hlt, getI_nat, List.getElem?_eq_getElem hlt, drop_get hlt, List.all_cons, wrapS (by omega), decide_eq_true (show (k : Int) ≥ 0 by omega)]
    unfold itOk lenOk
    unfold itOk lenOk at hn
    dsimp only
    generalize decide (l[k].1 ≥ 1) = b1
    generalize decide (l[k].1 ≤ 10000000) = b2
    generalize decide (l[k].2 ≥ 1) = b3
    generalize decide (l[k].2 ≤ 10000000) = b4
    cases b1 <;> cases b2 <;> cases b3 <;> cases b4 <;> first | exact ⟨0, rfl⟩ | exact hn
theorem rad_loop (l : List It) (hb : l.length ≤ 50) : ∀ d k, l.length - k = d → k ≤ l.length → rad_C.Runs 14 (rad_h14 l (k : Int)) [.d .bool ((l.drop k).all itOk)] := by
  intro d
  induction d with
  | zero =>
    intro k hd hk
    refine rad_h14_s _ _ ⟨0, ?_⟩
    unfold rad_h14_t
    rw [ge_dec (by omega), drop_end (by omega)]
    rfl
  | succ d ih =>
    intro k hd hk
    have hlt : k < l.length := by omega
    have hn := ih (k + 1) (by omega) (by omega)
    refine rad_h14_s _ _ ?_
    unfold rad_h14_t
    simp only [lt_dec hlt, getI_nat, List.getElem?_eq_getElem hlt, drop_get hlt, List.all_cons, wrapS (show k + 1 ≤ 9223372036854775807 by omega)]
    unfold itOk lenOk
    unfold itOk lenOk at hn
    generalize decide (l[k].1 ≥ 1) = b1
    generalize decide (l[k].1 ≤ 10000000) = b2
    generalize decide (l[k].2 ≥ 1) = b3
    generalize decide (l[k].2 ≤ 10000000) = b4
    cases b1 <;> cases b2 <;> cases b3 <;> cases b4 <;> first | exact ⟨0, rfl⟩ | exact hn
theorem lt_of_dec {n : Nat} (h : decide ((n : Int) > 50) = false) : n ≤ 50 := by have := of_decide_eq_false h; omega
theorem cad_con (w h gap : Int) (l : List It) : Con Try.prog 55 [SI w, SI h, SI gap, .d (.sl (.st (.pair (.int .i64) (.int .i64)))) l] [.d .bool (admF w h gap l)] := by
  refine Ctx.Res.con (C := cad_C) (ctx_ok (E := []) trivial) ?_ (fn := Try.f55) (by kernel_rfl) (by kernel_rfl)
  refine cad_s _ _ _ _ ?_
  have hl := fun hh => cad_loop w h gap l hh _ 0 rfl (Nat.zero_le _)
  unfold cad_t admF lenOk
  cases c : decide ((l.length : Int) > 50) with
  | true =>
    generalize decide (w ≥ 1) = b1
    generalize decide (w ≤ 10000000) = b2
    generalize decide (h ≥ 1) = b3
    generalize decide (h ≤ 10000000) = b4
    generalize decide (gap < 0) = b5
    generalize decide (gap > 10000000) = b6
    cases b1 <;> cases b2 <;> cases b3 <;> cases b4 <;> cases b5 <;> cases b6 <;> exact ⟨0, rfl⟩
  | false =>
    have hl := hl (lt_of_dec c)
    generalize decide (w ≥ 1) = b1
    generalize decide (w ≤ 10000000) = b2
    generalize decide (h ≥ 1) = b3
    generalize decide (h ≤ 10000000) = b4
    generalize decide (gap < 0) = b5
    generalize decide (gap > 10000000) = b6
    cases b1 <;> cases b2 <;> cases b3 <;> cases b4 <;> cases b5 <;> cases b6 <;> first | exact ⟨0, rfl⟩ | exact hl
theorem rad_con (w h gap : Int) (l : List It) : Con Try.prog 30 [SI w, SI h, SI gap, .d (.sl (.st (.pair (.int .i64) (.int .i64)))) l] [.d .bool (admF w h gap l)] := by
  refine Ctx.Res.con (C := rad_C) (ctx_ok (E := []) trivial) ?_ (fn := Try.f30) (by kernel_rfl) (by kernel_rfl)
  refine rad_s _ _ _ _ ?_
  have hl := fun hh => rad_loop l hh _ 0 rfl (Nat.zero_le _)
  unfold rad_t admF lenOk
  cases c : decide ((l.length : Int) > 50) with
  | true =>
    generalize decide (w ≥ 1) = b1
    generalize decide (w ≤ 10000000) = b2
    generalize decide (h ≥ 1) = b3
    generalize decide (h ≤ 10000000) = b4
    generalize decide (gap < 0) = b5
    generalize decide (gap > 10000000) = b6
    cases b1 <;> cases b2 <;> cases b3 <;> cases b4 <;> cases b5 <;> cases b6 <;> exact ⟨0, rfl⟩
  | false =>
    have hl := hl (lt_of_dec c)
    generalize decide (w ≥ 1) = b1
    generalize decide (w ≤ 10000000) = b2
    generalize decide (h ≥ 1) = b3
    generalize decide (h ≤ 10000000) = b4
    generalize decide (gap < 0) = b5
    generalize decide (gap > 10000000) = b6
    cases b1 <;> cases b2 <;> cases b3 <;> cases b4 <;> cases b5 <;> cases b6 <;> first | exact ⟨0, rfl⟩ | exact hl
theorem csz_con (l : List It) (p : Pl) (h : sizeP l p) : Con Try.prog 58 [.d (.sl (.st (.pair (.int .i64) (.int .i64)))) l, .d (.st (.pair (.int .i64) (.pair (.int .i64) (.pair (.int .i64) .bool)))) p] [.d (.int .i64) (sizeF l p).1, .d (.int .i64) (sizeF l p).2] := by
  refine Ctx.Res.con (C := csz_C) (ctx_ok (E := []) trivial) ?_ (fn := Try.f58) (by kernel_rfl) (by kernel_rfl)
  refine csz_s _ _ ⟨0, ?_⟩
  unfold csz_t sizeF
  rw [getI_in (0, 0) h.1 h.2]
  cases p.2.2.2 <;> rfl
theorem rsz_con (l : List It) (p : Pl) (h : sizeP l p) : Con Try.prog 61 [.d (.sl (.st (.pair (.int .i64) (.int .i64)))) l, .d (.st (.pair (.int .i64) (.pair (.int .i64) (.pair (.int .i64) .bool)))) p] [.d (.int .i64) (sizeF l p).1, .d (.int .i64) (sizeF l p).2] := by
  refine Ctx.Res.con (C := rsz_C) (ctx_ok (E := []) trivial) ?_ (fn := Try.f61) (by kernel_rfl) (by kernel_rfl)
  refine rsz_s _ _ ⟨0, ?_⟩
  unfold rsz_t sizeF
  rw [getI_in (0, 0) h.1 h.2]
  cases p.2.2.2 <;> rfl
def csz_sp : Spec := { keep := true, run := fun _ args k => match args with
  | [.d (.sl (.st (.pair (.int .i64) (.int .i64)))) l, .d (.st (.pair (.int .i64) (.pair (.int .i64) (.pair (.int .i64) .bool)))) p] => match decide (sizeP l p) with
    | true => k [RV.d (.int .i64) ((sizeF l p).1), RV.d (.int .i64) ((sizeF l p).2)]
    | false => none
  | _ => none }
theorem csz_spec : callable Try.prog 58 = true ∧ SpecOk Try.prog 58 csz_sp ∧ ∀ g, csz_sp.mut_ = some g → MCon Try.prog 58 g := by
  refine ⟨by kernel_rfl, fun R args k r h => ?_, fun g h => by simp [csz_sp] at h⟩
  unfold csz_sp at h
  dsimp only at h
  split at h <;> try (cases h; done)
  split at h <;> try (cases h; done)
  rename_i hd
  exact ⟨_, h, csz_con _ _ (of_decide_eq_true hd)⟩
def rsz_sp : Spec := { keep := true, run := fun _ args k => match args with
  | [.d (.sl (.st (.pair (.int .i64) (.int .i64)))) l, .d (.st (.pair (.int .i64) (.pair (.int .i64) (.pair (.int .i64) .bool)))) p] => match decide (sizeP l p) with
    | true => k [RV.d (.int .i64) ((sizeF l p).1), RV.d (.int .i64) ((sizeF l p).2)]
    | false => none
  | _ => none }
theorem rsz_spec : callable Try.prog 61 = true ∧ SpecOk Try.prog 61 rsz_sp ∧ ∀ g, rsz_sp.mut_ = some g → MCon Try.prog 61 g := by
  refine ⟨by kernel_rfl, fun R args k r h => ?_, fun g h => by simp [rsz_sp] at h⟩
  unfold rsz_sp at h
  dsimp only at h
  split at h <;> try (cases h; done)
  split at h <;> try (cases h; done)
  rename_i hd
  exact ⟨_, h, rsz_con _ _ (of_decide_eq_true hd)⟩
def cad_sp : Spec := { keep := true, run := fun _ args k => match args with
  | [.d (.int .i64) w, .d (.int .i64) h, .d (.int .i64) gap, .d (.sl (.st (.pair (.int .i64) (.int .i64)))) l] => k [RV.d .bool (admF w h gap l)]
  | _ => none }
theorem cad_spec : callable Try.prog 55 = true ∧ SpecOk Try.prog 55 cad_sp ∧ ∀ g, cad_sp.mut_ = some g → MCon Try.prog 55 g := by
  refine ⟨by kernel_rfl, fun R args k r h => ?_, fun g h => by simp [cad_sp] at h⟩
  unfold cad_sp at h
  dsimp only at h
  split at h <;> try (cases h; done)
  exact ⟨_, h, cad_con _ _ _ _ ⟩
def rad_sp : Spec := { keep := true, run := fun _ args k => match args with
  | [.d (.int .i64) w, .d (.int .i64) h, .d (.int .i64) gap, .d (.sl (.st (.pair (.int .i64) (.int .i64)))) l] => k [RV.d .bool (admF w h gap l)]
  | _ => none }
theorem rad_spec : callable Try.prog 30 = true ∧ SpecOk Try.prog 30 rad_sp ∧ ∀ g, rad_sp.mut_ = some g → MCon Try.prog 30 g := by
  refine ⟨by kernel_rfl, fun R args k r h => ?_, fun g h => by simp [rad_sp] at h⟩
  unfold rad_sp at h
  dsimp only at h
  split at h <;> try (cases h; done)
  exact ⟨_, h, rad_con _ _ _ _ ⟩
def env1 : Env := [(58, csz_sp)]
theorem env1_ok : EnvAll Try.prog env1 := ⟨csz_spec, trivial⟩
def con_nt : NT := []
noncomputable def con_C : Ctx := ⟨Try.prog, ft, tys, env1, con_nt⟩
def con_t (_k : Nat → Cfg → Option (List RV)) (w : Int) (h : Int) (gap : Int) (l : List (Int × Int)) (p : Int × Int × Int × Bool) : Option (List RV) := match decide (p.2.1 < gap) with | true => some [RV.d .bool false] | false => (match decide (p.2.2.1 < gap) with | true => some [RV.d .bool false] | false => (match decide (p.2.1 > w) with | true => some [RV.d .bool false] | false => (match decide (p.2.2.1 > h) with | true => some [RV.d .bool false] | false => (match decide (sizeP l (p.1, (p.2.1, (p.2.2.1, p.2.2.2)))) with | true => (match decide ((IntKind.i64.wrap ((IntKind.i64.wrap (p.2.1 + ((sizeF l (p.1, (p.2.1, (p.2.2.1, p.2.2.2)))).1))) + gap)) ≤ w) with | true => some [RV.d .bool (decide ((IntKind.i64.wrap ((IntKind.i64.wrap (p.2.2.1 + ((sizeF l (p.1, (p.2.1, (p.2.2.1, p.2.2.2)))).2))) + gap)) ≤ h))] | false => some [RV.d .bool false]) | false => none))))
theorem con_eq (k : Nat → Cfg → Option (List RV)) (w : Int) (h : Int) (gap : Int) (l : List (Int × Int)) (p : Int × Int × Int × Bool) : go Try.prog ft tys env1 con_nt k 4000 (start 63 [SI w, SI h, SI gap, .d (.sl (.st (.pair (.int .i64) (.int .i64)))) l, .d (.st (.pair (.int .i64) (.pair (.int .i64) (.pair (.int .i64) .bool)))) p]) (.node 0) = con_t k w h gap l p := by kernel_rfl
theorem con_s (w : Int) (h : Int) (gap : Int) (l : List (Int × Int)) (p : Int × Int × Int × Bool) {rX : List RV} (hX : ∃ nX, con_t (con_C.k nX) w h gap l p = some rX) : con_C.Res 63 [SI w, SI h, SI gap, .d (.sl (.st (.pair (.int .i64) (.int .i64)))) l, .d (.st (.pair (.int .i64) (.pair (.int .i64) (.pair (.int .i64) .bool)))) p] rX := by
  obtain ⟨nX, hX⟩ := hX
  exact ⟨nX, (con_eq _ w h gap l p).trans hX⟩
def cap_nt : NT := []
noncomputable def cap_C : Ctx := ⟨Try.prog, ft, tys, env1, cap_nt⟩
def cap_t (_k : Nat → Cfg → Option (List RV)) (gap : Int) (l : List (Int × Int)) (p : Int × Int × Int × Bool) (q : Int × Int × Int × Bool) : Option (List RV) := match decide (sizeP l (p.1, (p.2.1, (p.2.2.1, p.2.2.2)))) with | true => (match decide (sizeP l (q.1, (q.2.1, (q.2.2.1, q.2.2.2)))) with | true => (match decide ((IntKind.i64.wrap ((IntKind.i64.wrap (p.2.1 + ((sizeF l (p.1, (p.2.1, (p.2.2.1, p.2.2.2)))).1))) + gap)) ≤ q.2.1) with | true => some [RV.d .bool true] | false => (match decide ((IntKind.i64.wrap ((IntKind.i64.wrap (q.2.1 + ((sizeF l (q.1, (q.2.1, (q.2.2.1, q.2.2.2)))).1))) + gap)) ≤ p.2.1) with | true => some [RV.d .bool true] | false => (match decide ((IntKind.i64.wrap ((IntKind.i64.wrap (p.2.2.1 + ((sizeF l (p.1, (p.2.1, (p.2.2.1, p.2.2.2)))).2))) + gap)) ≤ q.2.2.1) with | true => some [RV.d .bool true] | false => some [RV.d .bool (decide ((IntKind.i64.wrap ((IntKind.i64.wrap (q.2.2.1 + ((sizeF l (q.1, (q.2.1, (q.2.2.1, q.2.2.2)))).2))) + gap)) ≤ p.2.2.1))]))) | false => none) | false => none
theorem cap_eq (k : Nat → Cfg → Option (List RV)) (gap : Int) (l : List (Int × Int)) (p : Int × Int × Int × Bool) (q : Int × Int × Int × Bool) : go Try.prog ft tys env1 cap_nt k 4000 (start 64 [SI gap, .d (.sl (.st (.pair (.int .i64) (.int .i64)))) l, .d (.st (.pair (.int .i64) (.pair (.int .i64) (.pair (.int .i64) .bool)))) p, .d (.st (.pair (.int .i64) (.pair (.int .i64) (.pair (.int .i64) .bool)))) q]) (.node 0) = cap_t k gap l p q := by kernel_rfl
theorem cap_s (gap : Int) (l : List (Int × Int)) (p : Int × Int × Int × Bool) (q : Int × Int × Int × Bool) {rX : List RV} (hX : ∃ nX, cap_t (cap_C.k nX) gap l p q = some rX) : cap_C.Res 64 [SI gap, .d (.sl (.st (.pair (.int .i64) (.int .i64)))) l, .d (.st (.pair (.int .i64) (.pair (.int .i64) (.pair (.int .i64) .bool)))) p, .d (.st (.pair (.int .i64) (.pair (.int .i64) (.pair (.int .i64) .bool)))) q] rX := by
  obtain ⟨nX, hX⟩ := hX
  exact ⟨nX, (cap_eq _ gap l p q).trans hX⟩
theorem con_con (w h gap : Int) (l : List It) (p : Pl) (hp : onP w h gap l p) : Con Try.prog 63 [SI w, SI h, SI gap, .d (.sl (.st (.pair (.int .i64) (.int .i64)))) l, .d (.st (.pair (.int .i64) (.pair (.int .i64) (.pair (.int .i64) .bool)))) p] [.d .bool (onF w h gap l p)] := by
  refine Ctx.Res.con (C := con_C) (ctx_ok env1_ok) ?_ (fn := Try.f63) (by kernel_rfl) (by kernel_rfl)
  refine con_s _ _ _ _ _ ⟨0, ?_⟩
  obtain ⟨ha, hs⟩ := hp
  have a := adm_of ha
  have bd := size_bd a.l hs
  obtain ⟨a1, a2, a3, a4, a5, a6, a7, a8⟩ := a
  unfold con_t onF
  obtain ⟨i, x, y, t⟩ := p
  dsimp only at *
  rw [decide_eq_true hs]
  cases c1 : decide (x < gap) with
  | true => rfl
  | false =>
    cases c2 : decide (y < gap) with
    | true => rfl
    | false =>
      cases c3 : decide (x > w) with
      | true => rfl
      | false =>
        cases c4 : decide (y > h) with
        | true => rfl
        | false =>
          have c1 := of_decide_eq_false c1
          have c2 := of_decide_eq_false c2
          have c3 := of_decide_eq_false c3
          have c4 := of_decide_eq_false c4
          dsimp only
          rw [wrap64 (x := x + _) (by omega) (by omega), wrap64 (x := y + _) (by omega) (by omega), wrap64 (by omega) (by omega), wrap64 (by omega) (by omega)]
          cases decide (x + (sizeF l (i, x, y, t)).fst + gap ≤ w) <;> rfl
theorem cap_con (gap : Int) (l : List It) (p q : Pl) (hp : apP gap l p q) : Con Try.prog 64 [SI gap, .d (.sl (.st (.pair (.int .i64) (.int .i64)))) l, .d (.st (.pair (.int .i64) (.pair (.int .i64) (.pair (.int .i64) .bool)))) p, .d (.st (.pair (.int .i64) (.pair (.int .i64) (.pair (.int .i64) .bool)))) q] [.d .bool (apF gap l p q)] := by
  refine Ctx.Res.con (C := cap_C) (ctx_ok env1_ok) ?_ (fn := Try.f64) (by kernel_rfl) (by kernel_rfl)
  refine cap_s _ _ _ _ ⟨0, ?_⟩
  obtain ⟨⟨g1, g2⟩, hl, ⟨hs, p1, p2, p3, p4⟩, ⟨hs', q1, q2, q3, q4⟩⟩ := hp
  have bd := size_bd hl hs
  have bd' := size_bd hl hs'
  unfold cap_t apF
  obtain ⟨i, x, y, t⟩ := p
  obtain ⟨i', x', y', t'⟩ := q
  dsimp only at *
  rw [decide_eq_true hs, decide_eq_true hs']
  dsimp only
  rw [wrap64 (x := x + _) (by omega) (by omega), wrap64 (x := y + _) (by omega) (by omega), wrap64 (x := x' + _) (by omega) (by omega), wrap64 (x := y' + _) (by omega) (by omega), wrap64 (by omega) (by omega), wrap64 (by omega) (by omega), wrap64 (by omega) (by omega), wrap64 (by omega) (by omega)]
  generalize decide (x + (sizeF l (i, x, y, t)).fst + gap ≤ x') = b1
  generalize decide (x' + (sizeF l (i', x', y', t')).fst + gap ≤ x) = b2
  generalize decide (y + (sizeF l (i, x, y, t)).snd + gap ≤ y') = b3
  generalize decide (y' + (sizeF l (i', x', y', t')).snd + gap ≤ y) = b4
  cases b1 <;> cases b2 <;> cases b3 <;> rfl
end Go.Proofs.Ytfkidjkpgliffaa

/- the reference's Valid. -/
import Derived.Test.YtcaiedfkohigjaaGreatZ15
namespace Go.Proofs.YtcaiedfkohigjaaGreat
open Go.RowKit
def uval_nt : NT := [((13, 14), { keep := [0, 1, 5], hl := 0 })]
noncomputable def uval_C : Ctx := ⟨Tryz.prog, ft, tys, envTd2, uval_nt⟩
def uval_h14 (p : List ((Int × Int))) (l : List (Int × ((Int × Int)) × (Int × Int))) (s5 : Int) : Cfg := ⟨13, [.blk 0, .seq 51], [(0, .d (.sl tG) p), (1, .d (.sl (.st (.pair (.int .i64) (.pair tG tG)))) l), (5, SI s5)], [], 0, []⟩
noncomputable def uval_t (k : Nat → Cfg → Option (List RV)) (p : List ((Int × Int))) (l : List (Int × ((Int × Int)) × (Int × Int))) : Option (List RV) := match decide (farG p) with | true => (match !(goodB p) with | true => some [RV.d .bool false] | false => (match decide ((p.length : Int) < 2) with | true => some [RV.d .bool false] | false => k 14 (uval_h14 p l 0))) | false => none
theorem uval_eq (k : Nat → Cfg → Option (List RV)) (p : List ((Int × Int))) (l : List (Int × ((Int × Int)) × (Int × Int))) : go Tryz.prog ft tys envTd2 uval_nt k 4000 (start 13 [.d (.sl tG) p, .d (.sl (.st (.pair (.int .i64) (.pair tG tG)))) l]) (.node 0) = uval_t k p l := (go2_eq _ _ _ _ _ _ _ _ _).symm.trans (show go2 Tryz.prog ft tys envTd2 uval_nt k 4000 (start 13 [.d (.sl tG) p, .d (.sl (.st (.pair (.int .i64) (.pair tG tG)))) l]) (.node 0) = uval_t k p l by kernel_rfl)
theorem uval_s (p : List ((Int × Int))) (l : List (Int × ((Int × Int)) × (Int × Int))) {rX : List RV} (hX : ∃ nX, uval_t (uval_C.k nX) p l = some rX) : uval_C.Res 13 [.d (.sl tG) p, .d (.sl (.st (.pair (.int .i64) (.pair tG tG)))) l] rX := by
  obtain ⟨nX, hX⟩ := hX
  exact ⟨nX, (uval_eq _ p l).trans hX⟩
noncomputable def uval_h14_t (k : Nat → Cfg → Option (List RV)) (p : List ((Int × Int))) (l : List (Int × ((Int × Int)) × (Int × Int))) (s5 : Int) : Option (List RV) := match decide (s5 < (l.length : Int)) with | true => (match getI l s5 with | some x1 => (match decide (x1.1 < 0) with | true => some [RV.d .bool false] | false => (match decide (x1.1 ≥ (p.length : Int)) with | true => some [RV.d .bool false] | false => (match decide (s5 > 0) with | true => (match getI l (IntKind.i64.wrap (s5 - 1)) with | some x2 => (match decide (x2.1 > x1.1) with | true => some [RV.d .bool false] | false => (match getI p x1.1 with | some x3 => (match decide ((p.length : Int) = (0 : Int)) with | true => none | false => (match getI p (Int.tmod (IntKind.i64.wrap (x1.1 + 1)) (p.length : Int)) with | some x4 => (match !(onB x3 x4 x1.2.1) with | true => some [RV.d .bool false] | false => (match !(onB x3 x4 x1.2.2) with | true => some [RV.d .bool false] | false => (match ((x1.2.1.1 == x1.2.2.1) && ((x1.2.1.2 == x1.2.2.2) && true)) with | true => some [RV.d .bool false] | false => (match decide ((aloF x3 x4 x1.2.1) ≥ (aloF x3 x4 x1.2.2)) with | true => some [RV.d .bool false] | false => (match decide (s5 > 0) with | true => (match getI l (IntKind.i64.wrap (s5 - 1)) with | some x5 => (match x5.1 == x1.1 with | true => (match getI l (IntKind.i64.wrap (s5 - 1)) with | some x6 => (match decide ((aloF x3 x4 x6.2.2) ≥ (aloF x3 x4 x1.2.1)) with | true => some [RV.d .bool false] | false => k 14 (uval_h14 p l (IntKind.i64.wrap (s5 + 1)))) | none => none) | false => k 14 (uval_h14 p l (IntKind.i64.wrap (s5 + 1)))) | none => none) | false => k 14 (uval_h14 p l (IntKind.i64.wrap (s5 + 1)))))))) | none => none)) | none => none)) | none => none) | false => (match getI p x1.1 with | some x3 => (match decide ((p.length : Int) = (0 : Int)) with | true => none | false => (match getI p (Int.tmod (IntKind.i64.wrap (x1.1 + 1)) (p.length : Int)) with | some x4 => (match !(onB x3 x4 x1.2.1) with | true => some [RV.d .bool false] | false => (match !(onB x3 x4 x1.2.2) with | true => some [RV.d .bool false] | false => (match ((x1.2.1.1 == x1.2.2.1) && ((x1.2.1.2 == x1.2.2.2) && true)) with | true => some [RV.d .bool false] | false => (match decide ((aloF x3 x4 x1.2.1) ≥ (aloF x3 x4 x1.2.2)) with | true => some [RV.d .bool false] | false => (match decide (s5 > 0) with | true => (match getI l (IntKind.i64.wrap (s5 - 1)) with | some x5 => (match x5.1 == x1.1 with | true => (match getI l (IntKind.i64.wrap (s5 - 1)) with | some x6 => (match decide ((aloF x3 x4 x6.2.2) ≥ (aloF x3 x4 x1.2.1)) with | true => some [RV.d .bool false] | false => k 14 (uval_h14 p l (IntKind.i64.wrap (s5 + 1)))) | none => none) | false => k 14 (uval_h14 p l (IntKind.i64.wrap (s5 + 1)))) | none => none) | false => k 14 (uval_h14 p l (IntKind.i64.wrap (s5 + 1)))))))) | none => none)) | none => none)))) | none => none) | false => some [RV.d .bool true]
theorem uval_h14_eq (k : Nat → Cfg → Option (List RV)) (p : List ((Int × Int))) (l : List (Int × ((Int × Int)) × (Int × Int))) (s5 : Int) : go Tryz.prog ft tys envTd2 uval_nt k 4000 { uval_h14 p l s5 with K := .lp 14 :: (uval_h14 p l s5).K } (.node 15) = uval_h14_t k p l s5 := (go2_eq _ _ _ _ _ _ _ _ _).symm.trans (show go2 Tryz.prog ft tys envTd2 uval_nt k 4000 { uval_h14 p l s5 with K := .lp 14 :: (uval_h14 p l s5).K } (.node 15) = uval_h14_t k p l s5 by kernel_rfl)
theorem uval_h14_s (p : List ((Int × Int))) (l : List (Int × ((Int × Int)) × (Int × Int))) (s5 : Int) {rX : List RV} (hX : ∃ nX, uval_h14_t (uval_C.k nX) p l s5 = some rX) : uval_C.Runs 14 (uval_h14 p l s5) rX := by
  obtain ⟨nX, hX⟩ := hX
  exact ⟨nX + 1, (uval_h14_eq _ p l s5).trans hX⟩
theorem uval_loop (p : List (Int × Int)) (l : List TB) (hp : p.length ≤ 1000000000) (hl : l.length ≤ 1000000000) : ∀ (j i : Nat), i + j = l.length → uval_C.Runs 14 (uval_h14 p l (i : Int)) [.d .bool (valG p (prevT l i) (l.drop i))] := by
  intro j
  induction j with
  | zero =>
    intro i hi
    refine uval_h14_s _ _ _ ⟨0, ?_⟩
    unfold uval_h14_t
    rw [ge_dec (by omega), drop_end (by omega)]
    cases prevT l i <;> rfl
  | succ j ih =>
    intro i hi
    have hil : i < l.length := by omega
    obtain ⟨q, hq⟩ := ih (i + 1) (by omega)
    refine uval_h14_s _ _ _ ⟨q, ?_⟩
    unfold uval_h14_t
    rw [lt_dec hil, getI_nat, List.getElem?_eq_getElem hil, val_step hil]
    dsimp only
    unfold tabOk
    cases h1 : decide (l[i].1 < 0)
    · cases h2 : decide (l[i].1 ≥ (p.length : Int))
      · have hend : endP p l[i].1 := ⟨by have := of_decide_eq_false h1; omega, by have := of_decide_eq_false h2; omega, hp⟩
        have hlen : decide ((p.length : Int) = 0) = false := decide_eq_false (by have := hend.1; have := hend.2.1; omega)
        obtain ⟨n1, n2⟩ := nx_ok hend
        rw [show aloT p l[i] l[i].2.1 = aloF (atG p l[i].1) (atG p (nxG p l[i].1)) l[i].2.1 from rfl, show aloT p l[i] l[i].2.2 = aloF (atG p l[i].1) (atG p (nxG p l[i].1)) l[i].2.2 from rfl]
        simp only [at_ok hend, n1, n2, hlen]
        have hAB : ((l[i].2.1.1 == l[i].2.2.1) && ((l[i].2.1.2 == l[i].2.2.2) && true)) = true → decide (aloF (atG p l[i].1) (atG p (nxG p l[i].1)) l[i].2.1 ≥ aloF (atG p l[i].1) (atG p (nxG p l[i].1)) l[i].2.2) = true := fun h => by
          simp only [Bool.and_true, Bool.and_eq_true, beq_iff_eq] at h
          have : l[i].2.1 = l[i].2.2 := Prod.ext h.1 h.2
          rw [this]
          exact decide_eq_true (Int.le_refl _)
        cases i with
        | zero =>
          rw [show decide (((0 : Nat) : Int) > 0) = false from rfl]
          dsimp only
          cases onB (atG p l[0].1) (atG p (nxG p l[0].1)) l[0].2.1
          · rfl
          cases onB (atG p l[0].1) (atG p (nxG p l[0].1)) l[0].2.2
          · rfl
          cases hab : ((l[0].2.1.1 == l[0].2.2.1) && ((l[0].2.1.2 == l[0].2.2.2) && true))
          · dsimp only
            cases decide (aloF (atG p l[0].1) (atG p (nxG p l[0].1)) l[0].2.1 ≥ aloF (atG p l[0].1) (atG p (nxG p l[0].1)) l[0].2.2)
            · exact hq
            · rfl
          · rw [hAB hab]
            rfl
        | succ i =>
          have e0 : decide (((i + 1 : Nat) : Int) > 0) = true := decide_eq_true (by omega)
          have e1 : IntKind.i64.wrap (((i + 1 : Nat) : Int) - 1) = (i : Int) := by rw [wrap64 (by omega) (by omega)]; omega
          have e2 : prevT l (i + 1) = some l[i] := List.getElem?_eq_getElem (by omega)
          have e3 : l[i]? = some l[i] := List.getElem?_eq_getElem (by omega)
          rw [wrapS (k := i + 1) (by omega)]
          simp only [e0, e1, getI_nat, e2, e3]
          unfold nextOk
          rw [show aloT p l[i + 1] l[i].2.2 = aloF (atG p l[i + 1].1) (atG p (nxG p l[i + 1].1)) l[i].2.2 from rfl, show aloT p l[i + 1] l[i + 1].2.1 = aloF (atG p l[i + 1].1) (atG p (nxG p l[i + 1].1)) l[i + 1].2.1 from rfl]
          cases h4 : decide (l[i].1 > l[i + 1].1)
          · dsimp only
            cases onB (atG p l[i + 1].1) (atG p (nxG p l[i + 1].1)) l[i + 1].2.1
            · rfl
            cases onB (atG p l[i + 1].1) (atG p (nxG p l[i + 1].1)) l[i + 1].2.2
            · rfl
            cases hab : ((l[i + 1].2.1.1 == l[i + 1].2.2.1) && ((l[i + 1].2.1.2 == l[i + 1].2.2.2) && true))
            · dsimp only
              cases decide (aloF (atG p l[i + 1].1) (atG p (nxG p l[i + 1].1)) l[i + 1].2.1 ≥ aloF (atG p l[i + 1].1) (atG p (nxG p l[i + 1].1)) l[i + 1].2.2)
              · dsimp only
                have h5 := of_decide_eq_false h4
                cases h6 : l[i].1 == l[i + 1].1
                · have h7 : l[i].1 ≠ l[i + 1].1 := by simpa using h6
                  rw [show decide (l[i].1 < l[i + 1].1) = true from decide_eq_true (by omega)]
                  exact hq
                · have h7 : l[i].1 = l[i + 1].1 := by simpa using h6
                  rw [show decide (l[i].1 < l[i + 1].1) = false from decide_eq_false (by omega)]
                  dsimp only
                  cases decide (aloF (atG p l[i + 1].1) (atG p (nxG p l[i + 1].1)) l[i].2.2 ≥ aloF (atG p l[i + 1].1) (atG p (nxG p l[i + 1].1)) l[i + 1].2.1)
                  · exact hq
                  · rfl
              · rfl
            · rw [hAB hab]
              rfl
          · have h5 := of_decide_eq_true h4
            rw [show decide (l[i].1 < l[i + 1].1) = false from decide_eq_false (by omega)]
            simp
      · rfl
    · rfl
theorem uval_con (p : List ((Int × Int))) (l : List (Int × ((Int × Int)) × (Int × Int))) (h : valP p l) : Con Tryz.prog 13 [.d (.sl tG) p, .d (.sl (.st (.pair (.int .i64) (.pair tG tG)))) l] [.d .bool (valF p l)] := by
  refine Ctx.Res.con (C := uval_C) (ctx_ok envTd2_ok) ?_ (fn := Tryz.f13) (by kernel_rfl) (by kernel_rfl)
  obtain ⟨hp, hl⟩ := h
  obtain ⟨q, hq⟩ := uval_loop p l hp hl l.length 0 (by omega)
  refine uval_s _ _ ⟨q, ?_⟩
  unfold uval_t valF
  rw [dT hp]
  dsimp only
  cases goodB p
  · rfl
  · cases decide ((p.length : Int) < 2)
    · exact hq
    · rfl
end Go.Proofs.YtcaiedfkohigjaaGreat

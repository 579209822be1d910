/- tabs: of, slices.Clone of positions. -/
import Derived.Test.YtcaiedfkohigjaaGreatZ15
namespace Go.Proofs.YtcaiedfkohigjaaGreat
open Go.RowKit
theorem app_ok2 {n m k : Nat} (h1 : n + m ≤ 100000000) (hk : k ≤ 1000000) : decide ((n + m) * k ≤ 140737488355328 ∧ n + m ≤ 140737488355328) = true := by
  refine decide_eq_true ⟨?_, by omega⟩
  have := Nat.mul_le_mul h1 hk
  omega
def tof_nt : NT := [((12, 8), { keep := [3, 6, 7, 8], own := [(3, 62, .st (.pair (.int .i64) (.pair tG tG)))], hl := 1 })]
noncomputable def tof_C : Ctx := ⟨Tryz.prog, ft, tys, [], tof_nt⟩
def tof_h8 (l : List (Int × ((Int × Int)) × (Int × Int))) (s8 : Int) (r0 : List (Int × ((Int × Int)) × (Int × Int))) : Cfg := ⟨12, [.blk 0, .seq 21], [(3, .own 0), (6, .d (.sl (.st (.pair (.int .i64) (.pair tG tG)))) l), (7, SI (l.length : Int)), (8, SI s8)], [.row 62 (.st (.pair (.int .i64) (.pair tG tG))) r0], 0, []⟩
noncomputable def tof_t (k : Nat → Cfg → Option (List RV)) (l : List (Int × ((Int × Int)) × (Int × Int))) : Option (List RV) := k 8 (tof_h8 l 0 ([]))
theorem tof_eq (k : Nat → Cfg → Option (List RV)) (l : List (Int × ((Int × Int)) × (Int × Int))) : go Tryz.prog ft tys [] tof_nt k 4000 (start 12 [.d (.sl (.st (.pair (.int .i64) (.pair tG tG)))) l]) (.node 0) = tof_t k l := (go2_eq _ _ _ _ _ _ _ _ _).symm.trans (show go2 Tryz.prog ft tys [] tof_nt k 4000 (start 12 [.d (.sl (.st (.pair (.int .i64) (.pair tG tG)))) l]) (.node 0) = tof_t k l by kernel_rfl)
theorem tof_s (l : List (Int × ((Int × Int)) × (Int × Int))) {rX : List RV} (hX : ∃ nX, tof_t (tof_C.k nX) l = some rX) : tof_C.Res 12 [.d (.sl (.st (.pair (.int .i64) (.pair tG tG)))) l] rX := by
  obtain ⟨nX, hX⟩ := hX
  exact ⟨nX, (tof_eq _ l).trans hX⟩
noncomputable def tof_h8_t (k : Nat → Cfg → Option (List RV)) (l : List (Int × ((Int × Int)) × (Int × Int))) (s8 : Int) (r0 : List (Int × ((Int × Int)) × (Int × Int))) : Option (List RV) := match decide (s8 < (l.length : Int)) with | true => (match getI l s8 with | some x1 => (match decide ((r0.length + ([x1]).length) * 40 ≤ 140737488355328 ∧ r0.length + ([x1]).length ≤ 140737488355328) with | true => k 8 (tof_h8 l (IntKind.i64.wrap (s8 + 1)) (r0 ++ ([x1]))) | false => none) | none => none) | false => some [RV.new 62 (.st (.pair (.int .i64) (.pair tG tG))) r0]
theorem tof_h8_eq (k : Nat → Cfg → Option (List RV)) (l : List (Int × ((Int × Int)) × (Int × Int))) (s8 : Int) (r0 : List (Int × ((Int × Int)) × (Int × Int))) : go Tryz.prog ft tys [] tof_nt k 4000 { tof_h8 l s8 r0 with K := .lp 8 :: (tof_h8 l s8 r0).K } (.node 9) = tof_h8_t k l s8 r0 := (go2_eq _ _ _ _ _ _ _ _ _).symm.trans (show go2 Tryz.prog ft tys [] tof_nt k 4000 { tof_h8 l s8 r0 with K := .lp 8 :: (tof_h8 l s8 r0).K } (.node 9) = tof_h8_t k l s8 r0 by kernel_rfl)
theorem tof_h8_s (l : List (Int × ((Int × Int)) × (Int × Int))) (s8 : Int) (r0 : List (Int × ((Int × Int)) × (Int × Int))) {rX : List RV} (hX : ∃ nX, tof_h8_t (tof_C.k nX) l s8 r0 = some rX) : tof_C.Runs 8 (tof_h8 l s8 r0) rX := by
  obtain ⟨nX, hX⟩ := hX
  exact ⟨nX + 1, (tof_h8_eq _ l s8 r0).trans hX⟩
def tcl_nt : NT := []
noncomputable def tcl_C : Ctx := ⟨Tryz.prog, ft, tys, [], tcl_nt⟩
noncomputable def tcl_t (_k : Nat → Cfg → Option (List RV)) (p : List ((Int × Int))) : Option (List RV) := match p with | [] => both (some [RV.new 23 tG []]) (match decide ((([] : List ((Int × Int))).length + p.length) * 16 ≤ 140737488355328 ∧ ([] : List ((Int × Int))).length + p.length ≤ 140737488355328) with | true => some [RV.new 23 tG (([] : List ((Int × Int))) ++ p)] | false => none) | _ :: _ => (match decide ((([] : List ((Int × Int))).length + p.length) * 16 ≤ 140737488355328 ∧ ([] : List ((Int × Int))).length + p.length ≤ 140737488355328) with | true => some [RV.new 23 tG (([] : List ((Int × Int))) ++ p)] | false => none)
theorem tcl_eq (k : Nat → Cfg → Option (List RV)) (p : List ((Int × Int))) : go Tryz.prog ft tys [] tcl_nt k 4000 (start 11 [.d (.sl tG) p]) (.node 0) = tcl_t k p := (go2_eq _ _ _ _ _ _ _ _ _).symm.trans (show go2 Tryz.prog ft tys [] tcl_nt k 4000 (start 11 [.d (.sl tG) p]) (.node 0) = tcl_t k p by kernel_rfl)
theorem tcl_s (p : List ((Int × Int))) {rX : List RV} (hX : ∃ nX, tcl_t (tcl_C.k nX) p = some rX) : tcl_C.Res 11 [.d (.sl tG) p] rX := by
  obtain ⟨nX, hX⟩ := hX
  exact ⟨nX, (tcl_eq _ p).trans hX⟩
theorem tof_loop (l : List TB) (hb : l.length ≤ 1000) : ∀ d k, l.length - k = d → k ≤ l.length → tof_C.Runs 8 (tof_h8 l (k : Int) (l.take k)) [.new 62 (.st (.pair (.int .i64) (.pair tG tG))) l] := by
  intro d
  induction d with
  | zero =>
    intro k hd hk
    refine tof_h8_s _ _ _ ⟨0, ?_⟩
    unfold tof_h8_t
    rw [ge_dec (by omega), List.take_of_length_le (by omega)]
  | succ d ih =>
    intro k hd hk
    have hlt : k < l.length := by omega
    have hn := ih (k + 1) (by omega) (by omega)
    have hl : (l.take k).length = k := by simp; omega
    rw [List.take_succ_eq_append_getElem hlt] at hn
    refine tof_h8_s _ _ _ ?_
    unfold tof_h8_t
    rw [lt_dec hlt, getI_nat, List.getElem?_eq_getElem hlt]
    dsimp only
    rw [List.length_singleton, app_ok2 (by omega) (by omega), wrapS (by omega)]
    exact hn
theorem tof_con (l : List (Int × ((Int × Int)) × (Int × Int))) (h : l.length ≤ 1000) : Con Tryz.prog 12 [.d (.sl (.st (.pair (.int .i64) (.pair tG tG)))) l] [.new 62 (.st (.pair (.int .i64) (.pair tG tG))) l] := by
  refine Ctx.Res.con (C := tof_C) (ctx_ok (E := []) trivial) ?_ (fn := Tryz.f12) (by kernel_rfl) (by kernel_rfl)
  refine tof_s _ ?_
  unfold tof_t
  exact tof_loop l h _ 0 rfl (Nat.zero_le _)
theorem tcl_con (p : List ((Int × Int))) (h : p.length ≤ 1000000) : Con Tryz.prog 11 [.d (.sl tG) p] [.new 23 tG p] := by
  refine Ctx.Res.con (C := tcl_C) (ctx_ok (E := []) trivial) ?_ (fn := Tryz.f11) (by kernel_rfl) (by kernel_rfl)
  refine tcl_s _ ⟨0, ?_⟩
  unfold tcl_t
  have e := app_ok2 (n := ([] : List (Int × Int)).length) (m := p.length) (k := 16) (by simp; omega) (by omega)
  rw [e]
  cases p with
  | nil => exact both_self _
  | cons a p => rfl
end Go.Proofs.YtcaiedfkohigjaaGreat

/- tabs: Cut of both sides, CutError, Same. -/
import Derived.Test.YtcaiedfkohigjaaGreatZTb5
import Derived.Test.YtcaiedfkohigjaaGreatZTb6
namespace Go.Proofs.YtcaiedfkohigjaaGreat
open Go.RowKit
abbrev MV := Int × (Int × Int × Int) × (Int × Int) × Int
def mvF (g : Int × Int) (z rate : Int) : MV := (2, ((g.1, (g.2, z)), ((0, 0), rate)))
def okC (p : List (Int × Int)) (l : List TB) (z top rate : Int) : Bool := valF p l && (!(decide (z ≥ top)) && (!(farL [z, top]) && (!(decide (rate < 1)) && !(decide (rate > 10000000)))))
def cerF (p : List (Int × Int)) (l : List TB) (z top rate : Int) : Int := bif okC p l z top rate then 0 else 1
def tabM (z top rate : Int) (t : TB) : List MV := [mvF t.2.1 z rate, mvF t.2.1 top rate, mvF t.2.2 top rate, mvF t.2.2 z rate]
def rowM (p : List (Int × Int)) (z top rate : Int) (l : List TB) (i : Nat) : List MV := (l.filter fun t => t.1 == (i : Int)).flatMap (tabM z top rate) ++ [mvF (atG p (nxG p (i : Int))) z rate]
def cutR (p : List (Int × Int)) (l : List TB) (z top rate : Int) : List MV := (List.range' 0 p.length).flatMap (rowM p z top rate l)
def ctF (p : List (Int × Int)) (l : List TB) (z top rate : Int) : List MV := bif okC p l z top rate then cutR p l z top rate else []
def cutP (p : List (Int × Int)) (l : List TB) : Prop := p.length ≤ 1000 ∧ l.length ≤ 1000
instance (p : List (Int × Int)) (l : List TB) : Decidable (cutP p l) := by unfold cutP; infer_instance
def samP (a : List MV) : Prop := a.length ≤ 1000000000
instance (a : List MV) : Decidable (samP a) := by unfold samP; infer_instance
def envTg0 : Env := []
theorem envTg0_ok : EnvAll Tryz.prog envTg0 := trivial
def umv_nt : NT := []
noncomputable def umv_C : Ctx := ⟨Tryz.prog, ft, tys, envTg0, umv_nt⟩
noncomputable def umv_t (_k : Nat → Cfg → Option (List RV)) (g : (Int × Int)) (z : Int) (rate : Int) : Option (List RV) := some [RV.d (.st (.pair (.int .i64) (.pair (.st (.pair (.int .i64) (.pair (.int .i64) (.int .i64)))) (.pair tG (.int .i64))))) (2, ((g.1, (g.2, z)), ((0, 0), rate)))]
theorem umv_eq (k : Nat → Cfg → Option (List RV)) (g : (Int × Int)) (z : Int) (rate : Int) : go Tryz.prog ft tys envTg0 umv_nt k 4000 (start 46 [.d tG g, SI z, SI rate]) (.node 0) = umv_t k g z rate := (go2_eq _ _ _ _ _ _ _ _ _).symm.trans (show go2 Tryz.prog ft tys envTg0 umv_nt k 4000 (start 46 [.d tG g, SI z, SI rate]) (.node 0) = umv_t k g z rate by kernel_rfl)
theorem umv_s (g : (Int × Int)) (z : Int) (rate : Int) {rX : List RV} (hX : ∃ nX, umv_t (umv_C.k nX) g z rate = some rX) : umv_C.Res 46 [.d tG g, SI z, SI rate] rX := by
  obtain ⟨nX, hX⟩ := hX
  exact ⟨nX, (umv_eq _ g z rate).trans hX⟩
theorem umv_con (g : (Int × Int)) (z : Int) (rate : Int) : Con Tryz.prog 46 [.d tG g, .d (.int .i64) z, .d (.int .i64) rate] [.d (.st (.pair (.int .i64) (.pair (.st (.pair (.int .i64) (.pair (.int .i64) (.int .i64)))) (.pair tG (.int .i64))))) (mvF g z rate)] := by
  refine Ctx.Res.con (C := umv_C) (ctx_ok envTg0_ok) (umv_s _ _ _ ⟨0, ?_⟩) (fn := Tryz.f46) (by kernel_rfl) (by kernel_rfl)
  rfl
noncomputable def umv_tp : Spec := { keep := false, tame := true, run := fun _ args k => match args with
  | [.d (.st (.pair (.int .i64) (.int .i64))) g, .d (.int .i64) z, .d (.int .i64) rate] => k [RV.d (.st (.pair (.int .i64) (.pair (.st (.pair (.int .i64) (.pair (.int .i64) (.int .i64)))) (.pair tG (.int .i64))))) (hid (mvF g z rate))]
  | _ => none }
theorem umv_tpec : callable Tryz.prog 46 = true ∧ SpecOk Tryz.prog 46 umv_tp ∧ ∀ g, umv_tp.mut_ = some g → MCon Tryz.prog 46 g := by
  refine ⟨by kernel_rfl, fun R args k r h => ?_, fun g h => by cases h⟩
  unfold umv_tp at h
  dsimp only at h
  split at h <;> try (cases h; done)
  simp only [hid_eq] at h
  exact ⟨_, h, umv_con _ _ _ ⟩

noncomputable def envTg1 : Env := [(46, umv_tp)]
theorem envTg1_ok : EnvAll Tryz.prog envTg1 := ⟨umv_tpec, trivial⟩
def ucut_nt : NT := [((20, 8), { keep := [0, 1, 2, 3, 4, 11, 12], own := [(11, 82, .st (.pair (.int .i64) (.pair (.st (.pair (.int .i64) (.pair (.int .i64) (.int .i64)))) (.pair tG (.int .i64)))))], hl := 1 }), ((20, 21), { keep := [0, 1, 2, 3, 4, 11, 12, 13], hl := 1 })]
noncomputable def ucut_C : Ctx := ⟨Tryz.prog, ft, tys, envTg1, ucut_nt⟩
def ucut_h8 (p : List ((Int × Int))) (l : List (Int × ((Int × Int)) × (Int × Int))) (z : Int) (top : Int) (rate : Int) (s12 : Int) (r0 : List (Int × (Int × Int × Int) × ((Int × Int)) × Int)) : Cfg := ⟨20, [.blk 0, .seq 40], [(0, .d (.sl tG) p), (1, .d (.sl (.st (.pair (.int .i64) (.pair tG tG)))) l), (2, SI z), (3, SI top), (4, SI rate), (11, .own 0), (12, SI s12)], [.row 82 (.st (.pair (.int .i64) (.pair (.st (.pair (.int .i64) (.pair (.int .i64) (.int .i64)))) (.pair tG (.int .i64))))) r0], 0, []⟩
def ucut_h21 (p : List ((Int × Int))) (l : List (Int × ((Int × Int)) × (Int × Int))) (z : Int) (top : Int) (rate : Int) (s12 : Int) (s13 : Int) (r0 : List (Int × (Int × Int × Int) × ((Int × Int)) × Int)) : Cfg := ⟨20, [.blk 2, .seq 38, .blk 1, .seq 39, .lp 8, .blk 0, .seq 40], [(0, .d (.sl tG) p), (1, .d (.sl (.st (.pair (.int .i64) (.pair tG tG)))) l), (2, SI z), (3, SI top), (4, SI rate), (11, .own 0), (12, SI s12), (13, SI s13)], [.row 82 (.st (.pair (.int .i64) (.pair (.st (.pair (.int .i64) (.pair (.int .i64) (.int .i64)))) (.pair tG (.int .i64))))) r0], 0, []⟩
noncomputable def ucut_t (k : Nat → Cfg → Option (List RV)) (p : List ((Int × Int))) (l : List (Int × ((Int × Int)) × (Int × Int))) (z : Int) (top : Int) (rate : Int) : Option (List RV) := k 8 (ucut_h8 p l z top rate 0 ([]))
theorem ucut_eq (k : Nat → Cfg → Option (List RV)) (p : List ((Int × Int))) (l : List (Int × ((Int × Int)) × (Int × Int))) (z : Int) (top : Int) (rate : Int) : go Tryz.prog ft tys envTg1 ucut_nt k 4000 (start 20 [.d (.sl tG) p, .d (.sl (.st (.pair (.int .i64) (.pair tG tG)))) l, SI z, SI top, SI rate]) (.node 0) = ucut_t k p l z top rate := (go2_eq _ _ _ _ _ _ _ _ _).symm.trans (show go2 Tryz.prog ft tys envTg1 ucut_nt k 4000 (start 20 [.d (.sl tG) p, .d (.sl (.st (.pair (.int .i64) (.pair tG tG)))) l, SI z, SI top, SI rate]) (.node 0) = ucut_t k p l z top rate by kernel_rfl)
theorem ucut_s (p : List ((Int × Int))) (l : List (Int × ((Int × Int)) × (Int × Int))) (z : Int) (top : Int) (rate : Int) {rX : List RV} (hX : ∃ nX, ucut_t (ucut_C.k nX) p l z top rate = some rX) : ucut_C.Res 20 [.d (.sl tG) p, .d (.sl (.st (.pair (.int .i64) (.pair tG tG)))) l, SI z, SI top, SI rate] rX := by
  obtain ⟨nX, hX⟩ := hX
  exact ⟨nX, (ucut_eq _ p l z top rate).trans hX⟩
noncomputable def ucut_h8_t (k : Nat → Cfg → Option (List RV)) (p : List ((Int × Int))) (l : List (Int × ((Int × Int)) × (Int × Int))) (z : Int) (top : Int) (rate : Int) (s12 : Int) (r0 : List (Int × (Int × Int × Int) × ((Int × Int)) × Int)) : Option (List RV) := match decide (s12 < (p.length : Int)) with | true => k 21 (ucut_h21 p l z top rate s12 0 r0) | false => some [RV.new 82 (.st (.pair (.int .i64) (.pair (.st (.pair (.int .i64) (.pair (.int .i64) (.int .i64)))) (.pair tG (.int .i64))))) r0]
theorem ucut_h8_eq (k : Nat → Cfg → Option (List RV)) (p : List ((Int × Int))) (l : List (Int × ((Int × Int)) × (Int × Int))) (z : Int) (top : Int) (rate : Int) (s12 : Int) (r0 : List (Int × (Int × Int × Int) × ((Int × Int)) × Int)) : go Tryz.prog ft tys envTg1 ucut_nt k 4000 { ucut_h8 p l z top rate s12 r0 with K := .lp 8 :: (ucut_h8 p l z top rate s12 r0).K } (.node 9) = ucut_h8_t k p l z top rate s12 r0 := (go2_eq _ _ _ _ _ _ _ _ _).symm.trans (show go2 Tryz.prog ft tys envTg1 ucut_nt k 4000 { ucut_h8 p l z top rate s12 r0 with K := .lp 8 :: (ucut_h8 p l z top rate s12 r0).K } (.node 9) = ucut_h8_t k p l z top rate s12 r0 by kernel_rfl)
theorem ucut_h8_s (p : List ((Int × Int))) (l : List (Int × ((Int × Int)) × (Int × Int))) (z : Int) (top : Int) (rate : Int) (s12 : Int) (r0 : List (Int × (Int × Int × Int) × ((Int × Int)) × Int)) {rX : List RV} (hX : ∃ nX, ucut_h8_t (ucut_C.k nX) p l z top rate s12 r0 = some rX) : ucut_C.Runs 8 (ucut_h8 p l z top rate s12 r0) rX := by
  obtain ⟨nX, hX⟩ := hX
  exact ⟨nX + 1, (ucut_h8_eq _ p l z top rate s12 r0).trans hX⟩
noncomputable def ucut_h21_t (k : Nat → Cfg → Option (List RV)) (p : List ((Int × Int))) (l : List (Int × ((Int × Int)) × (Int × Int))) (z : Int) (top : Int) (rate : Int) (s12 : Int) (s13 : Int) (r0 : List (Int × (Int × Int × Int) × ((Int × Int)) × Int)) : Option (List RV) := match decide (s13 < (l.length : Int)) with | true => (match getI l s13 with | some x1 => (match x1.1 == s12 with | true => (match getI l s13 with | some x2 => (match getI l s13 with | some x3 => (match decide ((r0.length + ([hid (mvF x2.2.1 z rate), hid (mvF x2.2.1 top rate), hid (mvF x3.2.2 top rate), hid (mvF x3.2.2 z rate)]).length) * 56 ≤ 140737488355328 ∧ r0.length + ([hid (mvF x2.2.1 z rate), hid (mvF x2.2.1 top rate), hid (mvF x3.2.2 top rate), hid (mvF x3.2.2 z rate)]).length ≤ 140737488355328) with | true => k 21 (ucut_h21 p l z top rate s12 (IntKind.i64.wrap (s13 + 1)) (r0 ++ ([hid (mvF x2.2.1 z rate), hid (mvF x2.2.1 top rate), hid (mvF x3.2.2 top rate), hid (mvF x3.2.2 z rate)]))) | false => none) | none => none) | none => none) | false => k 21 (ucut_h21 p l z top rate s12 (IntKind.i64.wrap (s13 + 1)) r0)) | none => none) | false => (match decide ((p.length : Int) = (0 : Int)) with | true => none | false => (match getI p (Int.tmod (IntKind.i64.wrap (s12 + 1)) (p.length : Int)) with | some x4 => (match decide ((r0.length + ([hid (mvF x4 z rate)]).length) * 56 ≤ 140737488355328 ∧ r0.length + ([hid (mvF x4 z rate)]).length ≤ 140737488355328) with | true => k 8 (ucut_h8 p l z top rate (IntKind.i64.wrap (s12 + 1)) (r0 ++ ([hid (mvF x4 z rate)]))) | false => none) | none => none))
theorem ucut_h21_eq (k : Nat → Cfg → Option (List RV)) (p : List ((Int × Int))) (l : List (Int × ((Int × Int)) × (Int × Int))) (z : Int) (top : Int) (rate : Int) (s12 : Int) (s13 : Int) (r0 : List (Int × (Int × Int × Int) × ((Int × Int)) × Int)) : go Tryz.prog ft tys envTg1 ucut_nt k 4000 { ucut_h21 p l z top rate s12 s13 r0 with K := .lp 21 :: (ucut_h21 p l z top rate s12 s13 r0).K } (.node 22) = ucut_h21_t k p l z top rate s12 s13 r0 := (go2_eq _ _ _ _ _ _ _ _ _).symm.trans (show go2 Tryz.prog ft tys envTg1 ucut_nt k 4000 { ucut_h21 p l z top rate s12 s13 r0 with K := .lp 21 :: (ucut_h21 p l z top rate s12 s13 r0).K } (.node 22) = ucut_h21_t k p l z top rate s12 s13 r0 by kernel_rfl)
theorem ucut_h21_s (p : List ((Int × Int))) (l : List (Int × ((Int × Int)) × (Int × Int))) (z : Int) (top : Int) (rate : Int) (s12 : Int) (s13 : Int) (r0 : List (Int × (Int × Int × Int) × ((Int × Int)) × Int)) {rX : List RV} (hX : ∃ nX, ucut_h21_t (ucut_C.k nX) p l z top rate s12 s13 r0 = some rX) : ucut_C.Runs 21 (ucut_h21 p l z top rate s12 s13 r0) rX := by
  obtain ⟨nX, hX⟩ := hX
  exact ⟨nX + 1, (ucut_h21_eq _ p l z top rate s12 s13 r0).trans hX⟩
section
variable (p : List (Int × Int)) (l : List TB) (z top rate : Int)
theorem fm_congr {α β : Type} {f g : α → List β} : ∀ {l : List α}, (∀ x ∈ l, f x = g x) → l.flatMap f = l.flatMap g
  | [], _ => rfl
  | x :: l, h => by rw [List.flatMap_cons, List.flatMap_cons, h x (by simp), fm_congr fun y hy => h y (by simp [hy])]
theorem ucut_inner (hp : p.length ≤ 1000) (hl : l.length ≤ 1000) (i : Nat) (hi : i < p.length) (T : List MV) (hnext : ∀ r : List MV, r.length ≤ (i + 1) * 4001 → ucut_C.Runs 8 (ucut_h8 p l z top rate ((i + 1 : Nat) : Int) r) [.new 82 (.st (.pair (.int .i64) (.pair (.st (.pair (.int .i64) (.pair (.int .i64) (.int .i64)))) (.pair tG (.int .i64))))) (r ++ T)]) : ∀ j k, k + j = l.length → ∀ r0 : List MV, r0.length ≤ i * 4001 + 4 * k →
    ucut_C.Runs 21 (ucut_h21 p l z top rate (i : Int) (k : Int) r0) [.new 82 (.st (.pair (.int .i64) (.pair (.st (.pair (.int .i64) (.pair (.int .i64) (.int .i64)))) (.pair tG (.int .i64))))) (r0 ++ (((l.drop k).filter fun t => t.1 == (i : Int)).flatMap (tabM z top rate) ++ (mvF (atG p (nxG p (i : Int))) z rate :: T)))] := by
  intro j
  have hend : endP p (i : Int) := ⟨by omega, by omega, by omega⟩
  obtain ⟨n1, n2⟩ := nx_ok hend
  induction j with
  | zero =>
    intro k hk r0 hr
    obtain ⟨q, hq⟩ := hnext (r0 ++ [mvF (atG p (nxG p (i : Int))) z rate]) (by simp; omega)
    refine ucut_h21_s _ _ _ _ _ _ _ _ ⟨q, ?_⟩
    unfold ucut_h21_t
    rw [ge_dec (by omega), drop_end (by omega), n1, n2, dF (show ¬ (p.length : Int) = 0 by omega), wrapS (k := i) (by omega)]
    dsimp only
    rw [hid_eq, List.length_singleton, app_ok2 (by omega) (by omega)]
    rw [List.append_assoc] at hq
    exact hq
  | succ j ih =>
    intro k hk r0 hr
    have hkl : k < l.length := by omega
    refine ucut_h21_s _ _ _ _ _ _ _ _ ?_
    unfold ucut_h21_t
    rw [lt_dec hkl, getI_nat, List.getElem?_eq_getElem hkl, drop_get hkl, wrapS (k := k) (by omega)]
    dsimp only
    rw [List.filter_cons]
    cases hx : l[k].1 == (i : Int)
    · exact ih (k + 1) (by omega) r0 (by omega)
    · obtain ⟨q, hq⟩ := ih (k + 1) (by omega) (r0 ++ tabM z top rate l[k]) (by simp [tabM]; omega)
      refine ⟨q, ?_⟩
      rw [if_pos rfl, List.flatMap_cons, List.append_assoc (tabM z top rate l[k])]
      simp only [hid_eq]
      rw [app_ok2 (by simp; omega) (by omega)]
      rw [List.append_assoc] at hq
      exact hq
theorem ucut_loop (hp : p.length ≤ 1000) (hl : l.length ≤ 1000) : ∀ j i, i + j = p.length → ∀ r0 : List MV, r0.length ≤ i * 4001 → ucut_C.Runs 8 (ucut_h8 p l z top rate (i : Int) r0) [.new 82 (.st (.pair (.int .i64) (.pair (.st (.pair (.int .i64) (.pair (.int .i64) (.int .i64)))) (.pair tG (.int .i64))))) (r0 ++ (List.range' i j).flatMap (rowM p z top rate l))] := by
  intro j
  induction j with
  | zero =>
    intro i hi r0 hr
    refine ucut_h8_s _ _ _ _ _ _ _ ⟨0, ?_⟩
    unfold ucut_h8_t
    rw [ge_dec (by omega), List.range'_zero, List.flatMap_nil, List.append_nil]
  | succ j ih =>
    intro i hi r0 hr
    have hil : i < p.length := by omega
    have h := ucut_inner p l z top rate hp hl i hil ((List.range' (i + 1) j).flatMap (rowM p z top rate l)) (fun r hr => ih (i + 1) (by omega) r hr) l.length 0 (Nat.zero_add _) r0 (Nat.le_trans hr (Nat.le_add_right _ _))
    refine ucut_h8_s _ _ _ _ _ _ _ ?_
    unfold ucut_h8_t
    rw [lt_dec hil]
    rw [List.range'_succ, List.flatMap_cons]
    unfold rowM
    rw [List.append_assoc ((l.filter fun t => t.1 == (i : Int)).flatMap (tabM z top rate))]
    exact h
end
theorem ucut_con (p : List ((Int × Int))) (l : List (Int × ((Int × Int)) × (Int × Int))) (z : Int) (top : Int) (rate : Int) (h : cutP p l) : Con Tryz.prog 20 [.d (.sl tG) p, .d (.sl (.st (.pair (.int .i64) (.pair tG tG)))) l, .d (.int .i64) z, .d (.int .i64) top, .d (.int .i64) rate] [.new 82 (.st (.pair (.int .i64) (.pair (.st (.pair (.int .i64) (.pair (.int .i64) (.int .i64)))) (.pair tG (.int .i64))))) (cutR p l z top rate)] := by
  refine Ctx.Res.con (C := ucut_C) (ctx_ok envTg1_ok) ?_ (fn := Tryz.f20) (by kernel_rfl) (by kernel_rfl)
  obtain ⟨hp, hl⟩ := h
  refine ucut_s _ _ _ _ _ ?_
  unfold ucut_t cutR
  exact ucut_loop p l z top rate hp hl p.length 0 (by omega) [] (by simp)
def usam_nt : NT := [((19, 14), { keep := [0, 1, 5], hl := 0 })]
noncomputable def usam_C : Ctx := ⟨Tryz.prog, ft, tys, envTg1, usam_nt⟩
def usam_h14 (a : List (Int × (Int × Int × Int) × ((Int × Int)) × Int)) (b : List (Int × (Int × Int × Int) × ((Int × Int)) × Int)) (s5 : Int) : Cfg := ⟨19, [.blk 0, .seq 31], [(0, .d (.sl (.st (.pair (.int .i64) (.pair (.st (.pair (.int .i64) (.pair (.int .i64) (.int .i64)))) (.pair tG (.int .i64)))))) a), (1, .d (.sl (.st (.pair (.int .i64) (.pair (.st (.pair (.int .i64) (.pair (.int .i64) (.int .i64)))) (.pair tG (.int .i64)))))) b), (5, SI s5)], [], 0, []⟩
noncomputable def usam_t (k : Nat → Cfg → Option (List RV)) (a : List (Int × (Int × Int × Int) × ((Int × Int)) × Int)) (b : List (Int × (Int × Int × Int) × ((Int × Int)) × Int)) : Option (List RV) := match (a.length : Int) != (b.length : Int) with | true => some [RV.d .bool false] | false => k 14 (usam_h14 a b 0)
theorem usam_eq (k : Nat → Cfg → Option (List RV)) (a : List (Int × (Int × Int × Int) × ((Int × Int)) × Int)) (b : List (Int × (Int × Int × Int) × ((Int × Int)) × Int)) : go Tryz.prog ft tys envTg1 usam_nt k 4000 (start 19 [.d (.sl (.st (.pair (.int .i64) (.pair (.st (.pair (.int .i64) (.pair (.int .i64) (.int .i64)))) (.pair tG (.int .i64)))))) a, .d (.sl (.st (.pair (.int .i64) (.pair (.st (.pair (.int .i64) (.pair (.int .i64) (.int .i64)))) (.pair tG (.int .i64)))))) b]) (.node 0) = usam_t k a b := (go2_eq _ _ _ _ _ _ _ _ _).symm.trans (show go2 Tryz.prog ft tys envTg1 usam_nt k 4000 (start 19 [.d (.sl (.st (.pair (.int .i64) (.pair (.st (.pair (.int .i64) (.pair (.int .i64) (.int .i64)))) (.pair tG (.int .i64)))))) a, .d (.sl (.st (.pair (.int .i64) (.pair (.st (.pair (.int .i64) (.pair (.int .i64) (.int .i64)))) (.pair tG (.int .i64)))))) b]) (.node 0) = usam_t k a b by kernel_rfl)
theorem usam_s (a : List (Int × (Int × Int × Int) × ((Int × Int)) × Int)) (b : List (Int × (Int × Int × Int) × ((Int × Int)) × Int)) {rX : List RV} (hX : ∃ nX, usam_t (usam_C.k nX) a b = some rX) : usam_C.Res 19 [.d (.sl (.st (.pair (.int .i64) (.pair (.st (.pair (.int .i64) (.pair (.int .i64) (.int .i64)))) (.pair tG (.int .i64)))))) a, .d (.sl (.st (.pair (.int .i64) (.pair (.st (.pair (.int .i64) (.pair (.int .i64) (.int .i64)))) (.pair tG (.int .i64)))))) b] rX := by
  obtain ⟨nX, hX⟩ := hX
  exact ⟨nX, (usam_eq _ a b).trans hX⟩
noncomputable def usam_h14_t (k : Nat → Cfg → Option (List RV)) (a : List (Int × (Int × Int × Int) × ((Int × Int)) × Int)) (b : List (Int × (Int × Int × Int) × ((Int × Int)) × Int)) (s5 : Int) : Option (List RV) := match decide (s5 < (a.length : Int)) with | true => (match getI a s5 with | some x1 => (match getI b s5 with | some x2 => (match !((x1.1 == x2.1) && (((x1.2.1.1 == x2.2.1.1) && ((x1.2.1.2.1 == x2.2.1.2.1) && ((x1.2.1.2.2 == x2.2.1.2.2) && true))) && (((x1.2.2.1.1 == x2.2.2.1.1) && ((x1.2.2.1.2 == x2.2.2.1.2) && true)) && ((x1.2.2.2 == x2.2.2.2) && true)))) with | true => some [RV.d .bool false] | false => k 14 (usam_h14 a b (IntKind.i64.wrap (s5 + 1)))) | none => none) | none => none) | false => some [RV.d .bool true]
theorem usam_h14_eq (k : Nat → Cfg → Option (List RV)) (a : List (Int × (Int × Int × Int) × ((Int × Int)) × Int)) (b : List (Int × (Int × Int × Int) × ((Int × Int)) × Int)) (s5 : Int) : go Tryz.prog ft tys envTg1 usam_nt k 4000 { usam_h14 a b s5 with K := .lp 14 :: (usam_h14 a b s5).K } (.node 15) = usam_h14_t k a b s5 := (go2_eq _ _ _ _ _ _ _ _ _).symm.trans (show go2 Tryz.prog ft tys envTg1 usam_nt k 4000 { usam_h14 a b s5 with K := .lp 14 :: (usam_h14 a b s5).K } (.node 15) = usam_h14_t k a b s5 by kernel_rfl)
theorem usam_h14_s (a : List (Int × (Int × Int × Int) × ((Int × Int)) × Int)) (b : List (Int × (Int × Int × Int) × ((Int × Int)) × Int)) (s5 : Int) {rX : List RV} (hX : ∃ nX, usam_h14_t (usam_C.k nX) a b s5 = some rX) : usam_C.Runs 14 (usam_h14 a b s5) rX := by
  obtain ⟨nX, hX⟩ := hX
  exact ⟨nX + 1, (usam_h14_eq _ a b s5).trans hX⟩
theorem mv_ne (x y : MV) : (!((x.1 == y.1) && (((x.2.1.1 == y.2.1.1) && ((x.2.1.2.1 == y.2.1.2.1) && ((x.2.1.2.2 == y.2.1.2.2) && true))) && (((x.2.2.1.1 == y.2.2.1.1) && ((x.2.2.1.2 == y.2.2.1.2) && true)) && ((x.2.2.2 == y.2.2.2) && true))))) = decide (x ≠ y) := by
  obtain ⟨a1, ⟨a2, a3, a4⟩, ⟨a5, a6⟩, a7⟩ := x
  obtain ⟨b1, ⟨b2, b3, b4⟩, ⟨b5, b6⟩, b7⟩ := y
  rw [Bool.eq_iff_iff]
  simp only [Bool.and_true, Bool.not_eq_true', Bool.and_eq_false_iff, beq_eq_false_iff_ne, decide_eq_true_eq, ne_eq, Prod.mk.injEq]
  constructor
  · rintro h ⟨e1, ⟨e2, e3, e4⟩, ⟨e5, e6⟩, e7⟩
    subst e1 e2 e3 e4 e5 e6 e7
    simp at h
  · intro h
    by_cases e1 : a1 = b1
    · by_cases e2 : a2 = b2
      · by_cases e3 : a3 = b3
        · by_cases e4 : a4 = b4
          · by_cases e5 : a5 = b5
            · by_cases e6 : a6 = b6
              · by_cases e7 : a7 = b7
                · exact (h ⟨e1, ⟨e2, e3, e4⟩, ⟨e5, e6⟩, e7⟩).elim
                · exact .inr (.inr (.inr e7))
              · exact .inr (.inr (.inl (.inr e6)))
            · exact .inr (.inr (.inl (.inl e5)))
          · exact .inr (.inl (.inr (.inr e4)))
        · exact .inr (.inl (.inr (.inl e3)))
      · exact .inr (.inl (.inl e2))
    · exact .inl e1
theorem usam_loop (a b : List MV) (ha : a.length ≤ 1000000000) (hab : a.length = b.length) : ∀ (j i : Nat), i + j = a.length → usam_C.Runs 14 (usam_h14 a b (i : Int)) [.d .bool (decide (a.drop i = b.drop i))] := by
  intro j
  induction j with
  | zero =>
    intro i hi
    refine usam_h14_s _ _ _ ⟨0, ?_⟩
    unfold usam_h14_t
    rw [ge_dec (by omega), drop_end (by omega), drop_end (by omega)]
    rfl
  | succ j ih =>
    intro i hi
    have hil : i < a.length := by omega
    have hib : i < b.length := by omega
    obtain ⟨q, hq⟩ := ih (i + 1) (by omega)
    refine usam_h14_s _ _ _ ⟨q, ?_⟩
    unfold usam_h14_t
    rw [lt_dec hil, getI_nat, List.getElem?_eq_getElem hil, getI_nat, List.getElem?_eq_getElem hib, drop_get hil, drop_get hib, wrapS (by omega)]
    dsimp only
    rw [mv_ne]
    by_cases e : a[i] = b[i]
    · rw [e, dF (show ¬ (b[i] ≠ b[i]) from fun h => h rfl)]
      dsimp only
      rw [show decide (b[i] :: a.drop (i + 1) = b[i] :: b.drop (i + 1)) = decide (a.drop (i + 1) = b.drop (i + 1)) from decide_eq_decide.2 ⟨fun h => (List.cons.inj h).2, fun h => by rw [h]⟩]
      exact hq
    · rw [dT (show a[i] ≠ b[i] from e), dF (show ¬ (a[i] :: a.drop (i + 1) = b[i] :: b.drop (i + 1)) from fun h => e (List.cons.inj h).1)]
theorem usam_con (a : List (Int × (Int × Int × Int) × ((Int × Int)) × Int)) (b : List (Int × (Int × Int × Int) × ((Int × Int)) × Int)) (h : samP a) : Con Tryz.prog 19 [.d (.sl (.st (.pair (.int .i64) (.pair (.st (.pair (.int .i64) (.pair (.int .i64) (.int .i64)))) (.pair tG (.int .i64)))))) a, .d (.sl (.st (.pair (.int .i64) (.pair (.st (.pair (.int .i64) (.pair (.int .i64) (.int .i64)))) (.pair tG (.int .i64)))))) b] [.d .bool (decide (a = b))] := by
  refine Ctx.Res.con (C := usam_C) (ctx_ok envTg1_ok) ?_ (fn := Tryz.f19) (by kernel_rfl) (by kernel_rfl)
  by_cases hab : a.length = b.length
  · obtain ⟨q, hq⟩ := usam_loop a b h hab a.length 0 (by omega)
    refine usam_s _ _ ⟨q, ?_⟩
    unfold usam_t
    rw [show ((a.length : Int) != (b.length : Int)) = false by simp; omega]
    exact hq
  · refine usam_s _ _ ⟨0, ?_⟩
    unfold usam_t
    rw [show ((a.length : Int) != (b.length : Int)) = true by simp; omega, dF (show ¬ a = b from fun e => hab (by rw [e]))]
def tval_sp : Spec := { keep := true, run := fun _ args k => match args with
  | [.d (.sl (.st (.pair (.int .i64) (.int .i64)))) p, .d (.sl (.st (.pair (.int .i64) (.pair (.st (.pair (.int .i64) (.int .i64))) (.st (.pair (.int .i64) (.int .i64))))))) l] => match decide (valP p l) with
    | true => k [RV.d .bool (valF p l)]
    | false => none
  | _ => none }
theorem tval_spec : callable Tryz.prog 10 = true ∧ SpecOk Tryz.prog 10 tval_sp ∧ ∀ g, tval_sp.mut_ = some g → MCon Tryz.prog 10 g := by
  refine ⟨by kernel_rfl, fun R args k r h => ?_, fun g h => by simp [tval_sp] at h⟩
  unfold tval_sp at h
  dsimp only at h
  split at h <;> try (cases h; done)
  split at h <;> try (cases h; done)
  rename_i hd
  exact ⟨_, h, tval_con _ _ (of_decide_eq_true hd)⟩

def uval_sp : Spec := { keep := true, run := fun _ args k => match args with
  | [.d (.sl (.st (.pair (.int .i64) (.int .i64)))) p, .d (.sl (.st (.pair (.int .i64) (.pair (.st (.pair (.int .i64) (.int .i64))) (.st (.pair (.int .i64) (.int .i64))))))) l] => match decide (valP p l) with
    | true => k [RV.d .bool (valF p l)]
    | false => none
  | _ => none }
theorem uval_spec : callable Tryz.prog 13 = true ∧ SpecOk Tryz.prog 13 uval_sp ∧ ∀ g, uval_sp.mut_ = some g → MCon Tryz.prog 13 g := by
  refine ⟨by kernel_rfl, fun R args k r h => ?_, fun g h => by simp [uval_sp] at h⟩
  unfold uval_sp at h
  dsimp only at h
  split at h <;> try (cases h; done)
  split at h <;> try (cases h; done)
  rename_i hd
  exact ⟨_, h, uval_con _ _ (of_decide_eq_true hd)⟩

noncomputable def envTg2 : Env := [(24, tfar_sp), (35, tend_tp), (45, uin_tp), (10, tval_sp), (13, uval_sp)]
theorem envTg2_ok : EnvAll Tryz.prog envTg2 := ⟨tfar_spec, tend_tpec, uin_tpec, tval_spec, uval_spec, trivial⟩
def ucer_nt : NT := []
noncomputable def ucer_C : Ctx := ⟨Tryz.prog, ft, tys, envTg2, ucer_nt⟩
noncomputable def ucer_t (_k : Nat → Cfg → Option (List RV)) (p : List ((Int × Int))) (l : List (Int × ((Int × Int)) × (Int × Int))) (z : Int) (top : Int) (rate : Int) : Option (List RV) := match decide (valP p l) with | true => (match !(valF p l) with | true => some [RV.d (.int .i64) 1] | false => (match decide (z ≥ top) with | true => some [RV.d (.int .i64) 1] | false => (match !(!(farI z)) with | true => some [RV.d (.int .i64) 1] | false => (match !(!(farI top)) with | true => some [RV.d (.int .i64) 1] | false => (match decide (rate < 1) with | true => some [RV.d (.int .i64) 1] | false => (match decide (rate > 10000000) with | true => some [RV.d (.int .i64) 1] | false => some [RV.d (.int .i64) 0])))))) | false => none
theorem ucer_eq (k : Nat → Cfg → Option (List RV)) (p : List ((Int × Int))) (l : List (Int × ((Int × Int)) × (Int × Int))) (z : Int) (top : Int) (rate : Int) : go Tryz.prog ft tys envTg2 ucer_nt k 4000 (start 18 [.d (.sl tG) p, .d (.sl (.st (.pair (.int .i64) (.pair tG tG)))) l, SI z, SI top, SI rate]) (.node 0) = ucer_t k p l z top rate := (go2_eq _ _ _ _ _ _ _ _ _).symm.trans (show go2 Tryz.prog ft tys envTg2 ucer_nt k 4000 (start 18 [.d (.sl tG) p, .d (.sl (.st (.pair (.int .i64) (.pair tG tG)))) l, SI z, SI top, SI rate]) (.node 0) = ucer_t k p l z top rate by kernel_rfl)
theorem ucer_s (p : List ((Int × Int))) (l : List (Int × ((Int × Int)) × (Int × Int))) (z : Int) (top : Int) (rate : Int) {rX : List RV} (hX : ∃ nX, ucer_t (ucer_C.k nX) p l z top rate = some rX) : ucer_C.Res 18 [.d (.sl tG) p, .d (.sl (.st (.pair (.int .i64) (.pair tG tG)))) l, SI z, SI top, SI rate] rX := by
  obtain ⟨nX, hX⟩ := hX
  exact ⟨nX, (ucer_eq _ p l z top rate).trans hX⟩
theorem ucer_con (p : List ((Int × Int))) (l : List (Int × ((Int × Int)) × (Int × Int))) (z : Int) (top : Int) (rate : Int) (h : valP p l) : Con Tryz.prog 18 [.d (.sl tG) p, .d (.sl (.st (.pair (.int .i64) (.pair tG tG)))) l, .d (.int .i64) z, .d (.int .i64) top, .d (.int .i64) rate] [.d (.int .i64) (cerF p l z top rate)] := by
  refine Ctx.Res.con (C := ucer_C) (ctx_ok envTg2_ok) (ucer_s _ _ _ _ _ ⟨0, ?_⟩) (fn := Tryz.f18) (by kernel_rfl) (by kernel_rfl)
  unfold ucer_t cerF okC
  rw [dT h]
  have hf : farL [z, top] = (farI z || farI top) := by simp [farL]
  rw [hf]
  cases valF p l
  · rfl
  cases decide (z ≥ top)
  · cases farI z
    · cases farI top
      · cases decide (rate < 1)
        · cases decide (rate > 10000000) <;> rfl
        · rfl
      · rfl
    · rfl
  · rfl
def tcut_nt : NT := [((17, 18), { keep := [0, 1, 2, 3, 12, 13, 42, 43], pure_ := [(1, .st (.pair (.int .i64) (.pair tG tG)))], bx := [(2, 0, 82, .st (.pair (.int .i64) (.pair (.st (.pair (.int .i64) (.pair (.int .i64) (.int .i64)))) (.pair tG (.int .i64)))))], hl := 4 }), ((17, 31), { keep := [0, 1, 2, 3, 12, 13, 14, 42, 43], pure_ := [(1, .st (.pair (.int .i64) (.pair tG tG)))], hl := 4 }), ((17, 40), { keep := [0, 1, 2, 3, 12, 13, 14, 42, 43], hl := 0 }), ((17, 42), { keep := [0, 1, 2, 3, 12, 13, 14, 42, 43], hl := 0 }), ((17, 44), { keep := [0, 1, 2, 3, 12, 13, 14, 42, 43], hl := 0 }), ((17, 46), { keep := [0, 1, 2, 3, 12, 13, 14, 42, 43], hl := 0 }), ((17, 50), { keep := [0, 1, 2, 3, 12, 13, 42, 43], hl := 0 })]
noncomputable def tcut_C : Ctx := ⟨Tryz.prog, ft, tys, envTg2, tcut_nt⟩
def tcut_h18 (p : List ((Int × Int))) (z : Int) (top : Int) (rate : Int) (s43 : Int) (r3 : List (Int × (Int × Int × Int) × ((Int × Int)) × Int)) (s1 : List (Int × ((Int × Int)) × (Int × Int))) : Cfg := ⟨17, [.blk 0, .seq 52], [(0, .d (.sl tG) p), (1, .d (.sl (.st (.pair (.int .i64) (.pair tG tG)))) s1), (2, SI z), (3, SI top), (12, .box 2 0), (13, .clo 44 [2, 0]), (42, SI (p.length : Int)), (43, SI s43)], [.box 2 [SI rate], .row 2 (.int .i64) ([z, top]), .box 48 [.own 3], .row 82 (.st (.pair (.int .i64) (.pair (.st (.pair (.int .i64) (.pair (.int .i64) (.int .i64)))) (.pair tG (.int .i64))))) r3], 0, []⟩
def tcut_h31 (p : List ((Int × Int))) (z : Int) (top : Int) (rate : Int) (s43 : Int) (s1 : List (Int × ((Int × Int)) × (Int × Int))) (r3 : List (Int × (Int × Int × Int) × ((Int × Int)) × Int)) : Cfg := ⟨17, [.blk 2, .seq 48, .blk 1, .seq 51, .lp 18, .blk 0, .seq 52], [(0, .d (.sl tG) p), (1, .d (.sl (.st (.pair (.int .i64) (.pair tG tG)))) s1), (2, SI z), (3, SI top), (12, .box 2 0), (13, .clo 44 [2, 0]), (14, SI s43), (42, SI (p.length : Int)), (43, SI s43)], [.box 2 [SI rate], .row 2 (.int .i64) ([z, top]), .box 48 [.own 3], .row 82 (.st (.pair (.int .i64) (.pair (.st (.pair (.int .i64) (.pair (.int .i64) (.int .i64)))) (.pair tG (.int .i64))))) r3], 0, []⟩
noncomputable def tcut_t (k : Nat → Cfg → Option (List RV)) (p : List ((Int × Int))) (l : List (Int × ((Int × Int)) × (Int × Int))) (z : Int) (top : Int) (rate : Int) : Option (List RV) := match decide (valP p l) with | true => (match !(valF p l) with | true => some [RV.d (.sl (.st (.pair (.int .i64) (.pair (.st (.pair (.int .i64) (.pair (.int .i64) (.int .i64)))) (.pair tG (.int .i64)))))) ([]), RV.d (.int .i64) 1] | false => (match decide (z ≥ top) with | true => some [RV.d (.sl (.st (.pair (.int .i64) (.pair (.st (.pair (.int .i64) (.pair (.int .i64) (.int .i64)))) (.pair tG (.int .i64)))))) ([]), RV.d (.int .i64) 1] | false => (match decide (farP ([z, top])) with | true => (match farL ([z, top]) with | true => some [RV.d (.sl (.st (.pair (.int .i64) (.pair (.st (.pair (.int .i64) (.pair (.int .i64) (.int .i64)))) (.pair tG (.int .i64)))))) ([]), RV.d (.int .i64) 1] | false => (match decide (rate < 1) with | true => some [RV.d (.sl (.st (.pair (.int .i64) (.pair (.st (.pair (.int .i64) (.pair (.int .i64) (.int .i64)))) (.pair tG (.int .i64)))))) ([]), RV.d (.int .i64) 1] | false => (match decide (rate > 10000000) with | true => some [RV.d (.sl (.st (.pair (.int .i64) (.pair (.st (.pair (.int .i64) (.pair (.int .i64) (.int .i64)))) (.pair tG (.int .i64)))))) ([]), RV.d (.int .i64) 1] | false => k 18 (tcut_h18 p z top rate 0 ([]) l)))) | false => none))) | false => none
theorem tcut_eq (k : Nat → Cfg → Option (List RV)) (p : List ((Int × Int))) (l : List (Int × ((Int × Int)) × (Int × Int))) (z : Int) (top : Int) (rate : Int) : go Tryz.prog ft tys envTg2 tcut_nt k 4000 (start 17 [.d (.sl tG) p, .d (.sl (.st (.pair (.int .i64) (.pair tG tG)))) l, SI z, SI top, SI rate]) (.node 0) = tcut_t k p l z top rate := (go2_eq _ _ _ _ _ _ _ _ _).symm.trans (show go2 Tryz.prog ft tys envTg2 tcut_nt k 4000 (start 17 [.d (.sl tG) p, .d (.sl (.st (.pair (.int .i64) (.pair tG tG)))) l, SI z, SI top, SI rate]) (.node 0) = tcut_t k p l z top rate by kernel_rfl)
theorem tcut_s (p : List ((Int × Int))) (l : List (Int × ((Int × Int)) × (Int × Int))) (z : Int) (top : Int) (rate : Int) {rX : List RV} (hX : ∃ nX, tcut_t (tcut_C.k nX) p l z top rate = some rX) : tcut_C.Res 17 [.d (.sl tG) p, .d (.sl (.st (.pair (.int .i64) (.pair tG tG)))) l, SI z, SI top, SI rate] rX := by
  obtain ⟨nX, hX⟩ := hX
  exact ⟨nX, (tcut_eq _ p l z top rate).trans hX⟩
noncomputable def tcut_h18_t (k : Nat → Cfg → Option (List RV)) (p : List ((Int × Int))) (z : Int) (top : Int) (rate : Int) (s43 : Int) (r3 : List (Int × (Int × Int × Int) × ((Int × Int)) × Int)) (s1 : List (Int × ((Int × Int)) × (Int × Int))) : Option (List RV) := match decide (s43 < (p.length : Int)) with | true => k 31 (tcut_h31 p z top rate s43 s1 r3) | false => some [RV.d (.sl (.st (.pair (.int .i64) (.pair (.st (.pair (.int .i64) (.pair (.int .i64) (.int .i64)))) (.pair tG (.int .i64)))))) r3, RV.d (.int .i64) 0]
theorem tcut_h18_eq (k : Nat → Cfg → Option (List RV)) (p : List ((Int × Int))) (z : Int) (top : Int) (rate : Int) (s43 : Int) (r3 : List (Int × (Int × Int × Int) × ((Int × Int)) × Int)) (s1 : List (Int × ((Int × Int)) × (Int × Int))) : go Tryz.prog ft tys envTg2 tcut_nt k 4000 { tcut_h18 p z top rate s43 r3 s1 with K := .lp 18 :: (tcut_h18 p z top rate s43 r3 s1).K } (.node 19) = tcut_h18_t k p z top rate s43 r3 s1 := (go2_eq _ _ _ _ _ _ _ _ _).symm.trans (show go2 Tryz.prog ft tys envTg2 tcut_nt k 4000 { tcut_h18 p z top rate s43 r3 s1 with K := .lp 18 :: (tcut_h18 p z top rate s43 r3 s1).K } (.node 19) = tcut_h18_t k p z top rate s43 r3 s1 by kernel_rfl)
theorem tcut_h18_s (p : List ((Int × Int))) (z : Int) (top : Int) (rate : Int) (s43 : Int) (r3 : List (Int × (Int × Int × Int) × ((Int × Int)) × Int)) (s1 : List (Int × ((Int × Int)) × (Int × Int))) {rX : List RV} (hX : ∃ nX, tcut_h18_t (tcut_C.k nX) p z top rate s43 r3 s1 = some rX) : tcut_C.Runs 18 (tcut_h18 p z top rate s43 r3 s1) rX := by
  obtain ⟨nX, hX⟩ := hX
  exact ⟨nX + 1, (tcut_h18_eq _ p z top rate s43 r3 s1).trans hX⟩
noncomputable def tcut_h31_t (k : Nat → Cfg → Option (List RV)) (p : List ((Int × Int))) (z : Int) (top : Int) (rate : Int) (s43 : Int) (s1 : List (Int × ((Int × Int)) × (Int × Int))) (r3 : List (Int × (Int × Int × Int) × ((Int × Int)) × Int)) : Option (List RV) := match decide ((s1.length : Int) > 0) with | true => (match getI s1 0 with | some x1 => (match x1.1 == s43 with | true => (match getI s1 0 with | some x2 => (match decide ((r3.length + ([(2, ((x2.2.1.1, (x2.2.1.2, z)), ((0, 0), rate)))]).length) * 56 ≤ 140737488355328 ∧ r3.length + ([(2, ((x2.2.1.1, (x2.2.1.2, z)), ((0, 0), rate)))]).length ≤ 140737488355328) with | true => (match getI s1 0 with | some x3 => (match decide (((r3 ++ ([(2, ((x2.2.1.1, (x2.2.1.2, z)), ((0, 0), rate)))])).length + ([(2, ((x3.2.1.1, (x3.2.1.2, top)), ((0, 0), rate)))]).length) * 56 ≤ 140737488355328 ∧ (r3 ++ ([(2, ((x2.2.1.1, (x2.2.1.2, z)), ((0, 0), rate)))])).length + ([(2, ((x3.2.1.1, (x3.2.1.2, top)), ((0, 0), rate)))]).length ≤ 140737488355328) with | true => (match getI s1 0 with | some x4 => (match decide ((((r3 ++ ([(2, ((x2.2.1.1, (x2.2.1.2, z)), ((0, 0), rate)))])) ++ ([(2, ((x3.2.1.1, (x3.2.1.2, top)), ((0, 0), rate)))])).length + ([(2, ((x4.2.2.1, (x4.2.2.2, top)), ((0, 0), rate)))]).length) * 56 ≤ 140737488355328 ∧ ((r3 ++ ([(2, ((x2.2.1.1, (x2.2.1.2, z)), ((0, 0), rate)))])) ++ ([(2, ((x3.2.1.1, (x3.2.1.2, top)), ((0, 0), rate)))])).length + ([(2, ((x4.2.2.1, (x4.2.2.2, top)), ((0, 0), rate)))]).length ≤ 140737488355328) with | true => (match getI s1 0 with | some x5 => (match decide (((((r3 ++ ([(2, ((x2.2.1.1, (x2.2.1.2, z)), ((0, 0), rate)))])) ++ ([(2, ((x3.2.1.1, (x3.2.1.2, top)), ((0, 0), rate)))])) ++ ([(2, ((x4.2.2.1, (x4.2.2.2, top)), ((0, 0), rate)))])).length + ([(2, ((x5.2.2.1, (x5.2.2.2, z)), ((0, 0), rate)))]).length) * 56 ≤ 140737488355328 ∧ (((r3 ++ ([(2, ((x2.2.1.1, (x2.2.1.2, z)), ((0, 0), rate)))])) ++ ([(2, ((x3.2.1.1, (x3.2.1.2, top)), ((0, 0), rate)))])) ++ ([(2, ((x4.2.2.1, (x4.2.2.2, top)), ((0, 0), rate)))])).length + ([(2, ((x5.2.2.1, (x5.2.2.2, z)), ((0, 0), rate)))]).length ≤ 140737488355328) with | true => (match decide ((0 : Int) ≤ 1 ∧ 1 ≤ (s1.length : Int) ∧ (s1.length : Int) ≤ (s1.length : Int)) with | true => k 31 (tcut_h31 p z top rate s43 ((s1.take ((s1.length : Int)).toNat).drop (1 : Int).toNat) ((((r3 ++ ([(2, ((x2.2.1.1, (x2.2.1.2, z)), ((0, 0), rate)))])) ++ ([(2, ((x3.2.1.1, (x3.2.1.2, top)), ((0, 0), rate)))])) ++ ([(2, ((x4.2.2.1, (x4.2.2.2, top)), ((0, 0), rate)))])) ++ ([(2, ((x5.2.2.1, (x5.2.2.2, z)), ((0, 0), rate)))]))) | false => none) | false => none) | none => none) | false => none) | none => none) | false => none) | none => none) | false => none) | none => none) | false => (match decide (endP p s43) with | true => (match decide ((r3.length + ([(2, (((hid (atG p (nxG p s43))).1, ((hid (atG p (nxG p s43))).2, z)), ((0, 0), rate)))]).length) * 56 ≤ 140737488355328 ∧ r3.length + ([(2, (((hid (atG p (nxG p s43))).1, ((hid (atG p (nxG p s43))).2, z)), ((0, 0), rate)))]).length ≤ 140737488355328) with | true => k 18 (tcut_h18 p z top rate (IntKind.i64.wrap (s43 + 1)) (r3 ++ ([(2, (((hid (atG p (nxG p s43))).1, ((hid (atG p (nxG p s43))).2, z)), ((0, 0), rate)))])) s1) | false => none) | false => none)) | none => none) | false => (match decide (endP p s43) with | true => (match decide ((r3.length + ([(2, (((hid (atG p (nxG p s43))).1, ((hid (atG p (nxG p s43))).2, z)), ((0, 0), rate)))]).length) * 56 ≤ 140737488355328 ∧ r3.length + ([(2, (((hid (atG p (nxG p s43))).1, ((hid (atG p (nxG p s43))).2, z)), ((0, 0), rate)))]).length ≤ 140737488355328) with | true => k 18 (tcut_h18 p z top rate (IntKind.i64.wrap (s43 + 1)) (r3 ++ ([(2, (((hid (atG p (nxG p s43))).1, ((hid (atG p (nxG p s43))).2, z)), ((0, 0), rate)))])) s1) | false => none) | false => none)
theorem tcut_h31_eq (k : Nat → Cfg → Option (List RV)) (p : List ((Int × Int))) (z : Int) (top : Int) (rate : Int) (s43 : Int) (s1 : List (Int × ((Int × Int)) × (Int × Int))) (r3 : List (Int × (Int × Int × Int) × ((Int × Int)) × Int)) : go Tryz.prog ft tys envTg2 tcut_nt k 4000 { tcut_h31 p z top rate s43 s1 r3 with K := .lp 31 :: (tcut_h31 p z top rate s43 s1 r3).K } (.node 32) = tcut_h31_t k p z top rate s43 s1 r3 := (go2_eq _ _ _ _ _ _ _ _ _).symm.trans (show go2 Tryz.prog ft tys envTg2 tcut_nt k 4000 { tcut_h31 p z top rate s43 s1 r3 with K := .lp 31 :: (tcut_h31 p z top rate s43 s1 r3).K } (.node 32) = tcut_h31_t k p z top rate s43 s1 r3 by kernel_rfl)
theorem tcut_h31_s (p : List ((Int × Int))) (z : Int) (top : Int) (rate : Int) (s43 : Int) (s1 : List (Int × ((Int × Int)) × (Int × Int))) (r3 : List (Int × (Int × Int × Int) × ((Int × Int)) × Int)) {rX : List RV} (hX : ∃ nX, tcut_h31_t (tcut_C.k nX) p z top rate s43 s1 r3 = some rX) : tcut_C.Runs 31 (tcut_h31 p z top rate s43 s1 r3) rX := by
  obtain ⟨nX, hX⟩ := hX
  exact ⟨nX + 1, (tcut_h31_eq _ p z top rate s43 s1 r3).trans hX⟩
def srt (i : Nat) (s : List TB) : Prop := (∀ t ∈ s, (i : Int) ≤ t.1) ∧ s.Pairwise fun a b => a.1 ≤ b.1
theorem srt_none {i : Nat} {t : TB} {s : List TB} (h : srt i (t :: s)) (hne : (t.1 == (i : Int)) = false) : srt (i + 1) (t :: s) ∧ (t :: s).filter (fun t => t.1 == (i : Int)) = [] := by
  have h0 : t.1 ≠ (i : Int) := by simpa using hne
  have h1 := h.1 t (by simp)
  have h2 : ∀ u ∈ t :: s, ((i + 1 : Nat) : Int) ≤ u.1 := fun u hu => by
    rcases List.mem_cons.1 hu with rfl | hu
    · omega
    · have := (List.pairwise_cons.1 h.2).1 u hu
      omega
  refine ⟨⟨h2, h.2⟩, List.filter_eq_nil_iff.2 fun u hu => ?_⟩
  have := h2 u hu
  simp
  omega
section
variable (p : List (Int × Int)) (z top rate : Int)
theorem tcut_inner (hp : p.length ≤ 1000) (i m : Nat) (hi : i < p.length) (T : List TB → List MV) (hT : ∀ t s, srt i (t :: s) → (t.1 == (i : Int)) = true → T (t :: s) = T s) (hnext : ∀ (r : List MV) (s : List TB), srt (i + 1) s → r.length + 4 * s.length + m ≤ 5001 → tcut_C.Runs 18 (tcut_h18 p z top rate ((i + 1 : Nat) : Int) r s) [.d (.sl (.st (.pair (.int .i64) (.pair (.st (.pair (.int .i64) (.pair (.int .i64) (.int .i64)))) (.pair tG (.int .i64)))))) (r ++ T s), .d (.int .i64) (0 : Int)]) : ∀ (s : List TB), srt i s → ∀ r0 : List MV, r0.length + 4 * s.length + (m + 1) ≤ 5001 →
    tcut_C.Runs 31 (tcut_h31 p z top rate (i : Int) s r0) [.d (.sl (.st (.pair (.int .i64) (.pair (.st (.pair (.int .i64) (.pair (.int .i64) (.int .i64)))) (.pair tG (.int .i64)))))) (r0 ++ ((s.filter fun t => t.1 == (i : Int)).flatMap (tabM z top rate) ++ (mvF (atG p (nxG p (i : Int))) z rate :: T s))), .d (.int .i64) (0 : Int)] := by
  have hend : endP p (i : Int) := ⟨by omega, by omega, by omega⟩
  have last : ∀ (s : List TB) (r0 : List MV), srt (i + 1) s → r0.length + 4 * s.length + (m + 1) ≤ 5001 → ∃ q, (match decide (endP p (i : Int)) with | true => (match decide ((r0.length + ([((2 : Int), (((hid (atG p (nxG p (i : Int)))).1, ((hid (atG p (nxG p (i : Int)))).2, z)), (((0 : Int), (0 : Int)), rate)))] : List MV).length) * 56 ≤ 140737488355328 ∧ r0.length + ([((2 : Int), (((hid (atG p (nxG p (i : Int)))).1, ((hid (atG p (nxG p (i : Int)))).2, z)), (((0 : Int), (0 : Int)), rate)))] : List MV).length ≤ 140737488355328) with | true => tcut_C.k q 18 (tcut_h18 p z top rate (IntKind.i64.wrap ((i : Int) + 1)) (r0 ++ ([((2 : Int), (((hid (atG p (nxG p (i : Int)))).1, ((hid (atG p (nxG p (i : Int)))).2, z)), (((0 : Int), (0 : Int)), rate)))] : List MV)) s) | false => none) | false => none) = some [.d (.sl (.st (.pair (.int .i64) (.pair (.st (.pair (.int .i64) (.pair (.int .i64) (.int .i64)))) (.pair tG (.int .i64)))))) (r0 ++ (mvF (atG p (nxG p (i : Int))) z rate :: T s)), .d (.int .i64) (0 : Int)] := by
    intro s r0 hs hr
    obtain ⟨q, hq⟩ := hnext (r0 ++ [mvF (atG p (nxG p (i : Int))) z rate]) s hs (by simp; omega)
    refine ⟨q, ?_⟩
    rw [dT hend, hid_eq, wrapS (by omega), List.length_singleton, app_ok2 (by omega) (by omega)]
    rw [List.append_assoc] at hq
    exact hq
  intro s
  induction s with
  | nil =>
    intro hs r0 hr
    obtain ⟨q, hq⟩ := last [] r0 ⟨fun t ht => (by cases ht), List.Pairwise.nil⟩ hr
    refine tcut_h31_s _ _ _ _ _ _ _ ⟨q, ?_⟩
    exact hq
  | cons t s ih =>
    intro hs r0 hr
    have hlen : decide ((((t :: s).length : Nat) : Int) > 0) = true := decide_eq_true (by rw [List.length_cons]; omega)
    refine tcut_h31_s _ _ _ _ _ _ _ ?_
    unfold tcut_h31_t
    rw [hlen, show getI (t :: s) 0 = some t from rfl]
    dsimp only
    cases ht : t.1 == (i : Int)
    · obtain ⟨k1, k2⟩ := srt_none hs ht
      rw [k2]
      exact last (t :: s) r0 k1 hr
    · simp only [List.length_cons] at hr
      obtain ⟨q, hq⟩ := ih ⟨fun u hu => hs.1 u (by simp [hu]), (List.pairwise_cons.1 hs.2).2⟩ (r0 ++ tabM z top rate t) (by simp [tabM]; omega)
      refine ⟨q, ?_⟩
      rw [app_ok2 (by simp; omega) (by omega), app_ok2 (by simp; omega) (by omega), app_ok2 (by simp; omega) (by omega), app_ok2 (by simp; omega) (by omega)]
      dsimp only
      rw [dT (show (0 : Int) ≤ 1 ∧ 1 ≤ (((t :: s).length : Nat) : Int) ∧ (((t :: s).length : Nat) : Int) ≤ (((t :: s).length : Nat) : Int) from ⟨by omega, by simp only [List.length_cons]; omega, Int.le_refl _⟩)]
      dsimp only
      rw [toNat_nat, List.take_length, show List.drop (1 : Int).toNat (t :: s) = s from rfl, List.filter_cons, if_pos ht, List.flatMap_cons, hT t s hs ht]
      rw [List.append_assoc] at hq
      rw [List.append_assoc r0, List.append_assoc r0, List.append_assoc r0, List.append_assoc (tabM z top rate t)]
      exact hq
theorem tcut_loop (hp : p.length ≤ 1000) : ∀ j i, i + j = p.length → ∀ (s : List TB) (r0 : List MV), srt i s → r0.length + 4 * s.length + j ≤ 5001 → tcut_C.Runs 18 (tcut_h18 p z top rate (i : Int) r0 s) [.d (.sl (.st (.pair (.int .i64) (.pair (.st (.pair (.int .i64) (.pair (.int .i64) (.int .i64)))) (.pair tG (.int .i64)))))) (r0 ++ (List.range' i j).flatMap (rowM p z top rate s)), .d (.int .i64) (0 : Int)] := by
  intro j
  induction j with
  | zero =>
    intro i hi s r0 hs hr
    refine tcut_h18_s _ _ _ _ _ _ _ ⟨0, ?_⟩
    unfold tcut_h18_t
    rw [ge_dec (by omega), List.range'_zero, List.flatMap_nil, List.append_nil]
  | succ j ih =>
    intro i hi s r0 hs hr
    have hil : i < p.length := by omega
    have h := tcut_inner p z top rate hp i j hil (fun s => (List.range' (i + 1) j).flatMap (rowM p z top rate s)) (fun t s hs ht => by
      have ht : t.1 = (i : Int) := by simpa using ht
      refine fm_congr fun q hq => ?_
      have hq := (List.mem_range'_1.1 hq).1
      unfold rowM
      rw [List.filter_cons, if_neg (by simp; omega)]) (fun r s hs hr => ih (i + 1) (by omega) s r hs hr) s hs r0 (by omega)
    refine tcut_h18_s _ _ _ _ _ _ _ ?_
    unfold tcut_h18_t
    rw [lt_dec hil]
    rw [List.range'_succ, List.flatMap_cons]
    unfold rowM
    rw [List.append_assoc ((s.filter fun t => t.1 == (i : Int)).flatMap (tabM z top rate))]
    exact h
end
theorem valG_srt {p : List (Int × Int)} : ∀ {l : List TB} {o : Option TB}, valG p o l = true → (∀ t ∈ l, (0 : Int) ≤ t.1 ∧ ∀ s, o = some s → s.1 ≤ t.1) ∧ l.Pairwise fun a b => a.1 ≤ b.1
  | [], _, _ => ⟨fun t ht => (by cases ht), List.Pairwise.nil⟩
  | t :: r, o, h => by
    have h' : tabOk p t = true ∧ (∀ s, o = some s → s.1 ≤ t.1) ∧ valG p (some t) r = true := by
      cases o with
      | none =>
        simp only [valG, Bool.and_eq_true] at h
        exact ⟨h.1, fun s e => (by cases e), h.2⟩
      | some s =>
        simp only [valG, Bool.and_eq_true] at h
        refine ⟨h.1, fun u e => ?_, h.2.2⟩
        injection e with e
        subst e
        have := h.2.1
        unfold nextOk at this
        simp only [Bool.or_eq_true, Bool.and_eq_true, Bool.not_eq_true', decide_eq_true_eq, decide_eq_false_iff_not] at this
        omega
    obtain ⟨h1, h2, h3⟩ := h'
    obtain ⟨g1, g2⟩ := valG_srt h3
    have h4 : (0 : Int) ≤ t.1 := by
      unfold tabOk at h1
      simp only [Bool.and_eq_true, Bool.not_eq_true', decide_eq_false_iff_not] at h1
      omega
    refine ⟨fun u hu => ?_, List.pairwise_cons.2 ⟨fun u hu => (g1 u hu).2 t rfl, g2⟩⟩
    rcases List.mem_cons.1 hu with rfl | hu
    · exact ⟨h4, h2⟩
    · exact ⟨(g1 u hu).1, fun s e => Int.le_trans (h2 s e) ((g1 u hu).2 t rfl)⟩
theorem tcut_con (p : List ((Int × Int))) (l : List (Int × ((Int × Int)) × (Int × Int))) (z : Int) (top : Int) (rate : Int) (h : cutP p l) : Con Tryz.prog 17 [.d (.sl tG) p, .d (.sl (.st (.pair (.int .i64) (.pair tG tG)))) l, .d (.int .i64) z, .d (.int .i64) top, .d (.int .i64) rate] [.d (.sl (.st (.pair (.int .i64) (.pair (.st (.pair (.int .i64) (.pair (.int .i64) (.int .i64)))) (.pair tG (.int .i64)))))) (ctF p l z top rate), .d (.int .i64) (cerF p l z top rate)] := by
  refine Ctx.Res.con (C := tcut_C) (ctx_ok envTg2_ok) ?_ (fn := Tryz.f17) (by kernel_rfl) (by kernel_rfl)
  obtain ⟨hp, hl⟩ := h
  have hf : farL [z, top] = (farI z || farI top) := by simp [farL]
  refine tcut_s _ _ _ _ _ ?_
  unfold tcut_t ctF cerF okC
  rw [dT (show valP p l from ⟨by show p.length ≤ 1000000000; omega, by omega⟩), dT (show farP [z, top] by show 2 ≤ 1000000000; decide)]
  cases hv : valF p l
  · exact ⟨0, rfl⟩
  cases decide (z ≥ top)
  · cases farL [z, top]
    · cases decide (rate < 1)
      · cases decide (rate > 10000000)
        · have hs : srt 0 l := by
            unfold valF at hv
            simp only [Bool.and_eq_true] at hv
            obtain ⟨g1, g2⟩ := valG_srt hv.2.2
            exact ⟨fun t ht => (g1 t ht).1, g2⟩
          exact tcut_loop p z top rate hp p.length 0 (by omega) l [] hs (by simp; omega)
        · exact ⟨0, rfl⟩
      · exact ⟨0, rfl⟩
    · exact ⟨0, rfl⟩
  · exact ⟨0, rfl⟩
end Go.Proofs.YtcaiedfkohigjaaGreat

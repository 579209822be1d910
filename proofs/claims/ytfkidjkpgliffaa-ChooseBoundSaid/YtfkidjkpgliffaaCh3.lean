/- choose: pieces, Coverable, Contains; the reference's pieces, reached, all, Coverable. -/
import Derived.Test.YtfkidjkpgliffaaCh2
namespace Go.Proofs.Ytfkidjkpgliffaa
open Go.RowKit
def npc (reach : List (List Bool)) : Nat := (reach.headD []).length
def rect (reach : List (List Bool)) : Prop := ∀ l ∈ reach, l.length = npc reach
def small3 (reach : List (List Bool)) : Prop := reach.length ≤ 1000 ∧ npc reach ≤ 1000 ∧ reach.all (fun l => decide (l.length = npc reach)) = true
instance (reach : List (List Bool)) : Decidable (small3 reach) := by unfold small3; infer_instance
theorem small3.rect {reach : List (List Bool)} (h : small3 reach) : rect reach := fun l hl => of_decide_eq_true (List.all_eq_true.1 h.2.2 l hl)
/-- For each piece whether a tool reaches it. -/
def covF (reach : List (List Bool)) : List Bool := (List.range (npc reach)).map fun p => reach.any fun l => l.getD p false
def reachedF (reach : List (List Bool)) (l : List Int) (p : Int) : Bool := l.any fun t => (reach.getD t.toNat []).getD p.toNat false
def allF (reach : List (List Bool)) : List Int := (List.range reach.length).map fun (i : Nat) => (i : Int)
theorem covF_len (reach : List (List Bool)) : (covF reach).length = npc reach := by simp [covF]
def cpieces_nt : NT := []
noncomputable def cpieces_C : Ctx := ⟨Try.prog, ft, tys, [], cpieces_nt⟩
def cpieces_t (_k : Nat → Cfg → Option (List RV)) (reach : List (List Bool)) : Option (List RV) := match (reach.length : Int) == 0 with | true => some [RV.d (.int .i64) 0] | false => (match getI reach 0 with | some x1 => some [RV.d (.int .i64) (x1.length : Int)] | none => none)
theorem cpieces_eq (k : Nat → Cfg → Option (List RV)) (reach : List (List Bool)) : go Try.prog ft tys [] cpieces_nt k 4000 (start 77 [.d (.sl (.sl .bool)) reach]) (.node 0) = cpieces_t k reach := by kernel_rfl
theorem cpieces_s (reach : List (List Bool)) {r : List RV} (h : ∃ n, cpieces_t (cpieces_C.k n) reach = some r) : cpieces_C.Res 77 [.d (.sl (.sl .bool)) reach] r := by
  obtain ⟨n, h⟩ := h
  exact ⟨n, (cpieces_eq _ reach).trans h⟩
theorem cpieces_con (reach : List (List Bool)) : Con Try.prog 77 [.d (.sl (.sl .bool)) reach] [.d (.int .i64) (npc reach : Int)] := by
  refine Ctx.Res.con (C := cpieces_C) (ctx_ok (E := []) trivial) ?_ (fn := Try.f77) (by kernel_rfl) (by kernel_rfl)
  refine cpieces_s _ ⟨0, ?_⟩
  unfold cpieces_t
  cases reach with
  | nil => rfl
  | cons l ls =>
    have : (((l :: ls).length : Int) == 0) = false := by simp; omega
    rw [this]
    rfl
def rpieces_nt : NT := []
noncomputable def rpieces_C : Ctx := ⟨Try.prog, ft, tys, [], rpieces_nt⟩
def rpieces_t (_k : Nat → Cfg → Option (List RV)) (reach : List (List Bool)) : Option (List RV) := match (reach.length : Int) == 0 with | true => some [RV.d (.int .i64) 0] | false => (match getI reach 0 with | some x1 => some [RV.d (.int .i64) (x1.length : Int)] | none => none)
theorem rpieces_eq (k : Nat → Cfg → Option (List RV)) (reach : List (List Bool)) : go Try.prog ft tys [] rpieces_nt k 4000 (start 78 [.d (.sl (.sl .bool)) reach]) (.node 0) = rpieces_t k reach := by kernel_rfl
theorem rpieces_s (reach : List (List Bool)) {r : List RV} (h : ∃ n, rpieces_t (rpieces_C.k n) reach = some r) : rpieces_C.Res 78 [.d (.sl (.sl .bool)) reach] r := by
  obtain ⟨n, h⟩ := h
  exact ⟨n, (rpieces_eq _ reach).trans h⟩
theorem rpieces_con (reach : List (List Bool)) : Con Try.prog 78 [.d (.sl (.sl .bool)) reach] [.d (.int .i64) (npc reach : Int)] := by
  refine Ctx.Res.con (C := rpieces_C) (ctx_ok (E := []) trivial) ?_ (fn := Try.f78) (by kernel_rfl) (by kernel_rfl)
  refine rpieces_s _ ⟨0, ?_⟩
  unfold rpieces_t
  cases reach with
  | nil => rfl
  | cons l ls =>
    have : (((l :: ls).length : Int) == 0) = false := by simp; omega
    rw [this]
    rfl
def cpieces_sp : Spec := { keep := true, run := fun _ args k => match args with
  | [.d (.sl (.sl .bool)) reach] => k [RV.d (.int .i64) (npc reach : Int)]
  | _ => none }
theorem cpieces_spec : callable Try.prog 77 = true ∧ SpecOk Try.prog 77 cpieces_sp ∧ ∀ g, cpieces_sp.mut_ = some g → MCon Try.prog 77 g := by
  refine ⟨by kernel_rfl, fun R args k r h => ?_, fun g h => by simp [cpieces_sp] at h⟩
  unfold cpieces_sp at h
  dsimp only at h
  split at h <;> try (cases h; done)
  exact ⟨_, h, cpieces_con _ ⟩
def rpieces_sp : Spec := { keep := true, run := fun _ args k => match args with
  | [.d (.sl (.sl .bool)) reach] => k [RV.d (.int .i64) (npc reach : Int)]
  | _ => none }
theorem rpieces_spec : callable Try.prog 78 = true ∧ SpecOk Try.prog 78 rpieces_sp ∧ ∀ g, rpieces_sp.mut_ = some g → MCon Try.prog 78 g := by
  refine ⟨by kernel_rfl, fun R args k r h => ?_, fun g h => by simp [rpieces_sp] at h⟩
  unfold rpieces_sp at h
  dsimp only at h
  split at h <;> try (cases h; done)
  exact ⟨_, h, rpieces_con _ ⟩
def rall_nt : NT := [((81, 8), { keep := [0, 3, 4], own := [(3, 3, .int .i64)], hl := 1 })]
noncomputable def rall_C : Ctx := ⟨Try.prog, ft, tys, [], rall_nt⟩
def rall_h8 (reach : List (List Bool)) (s4 : Int) (r0 : List Int) : Cfg := ⟨81, [.blk 0, .seq 19], [(0, .d (.sl (.sl .bool)) reach), (3, .own 0), (4, SI s4)], [.row 3 (.int .i64) r0], 0, []⟩
def rall_t (k : Nat → Cfg → Option (List RV)) (reach : List (List Bool)) : Option (List RV) := k 8 (rall_h8 reach 0 ([]))
theorem rall_eq (k : Nat → Cfg → Option (List RV)) (reach : List (List Bool)) : go Try.prog ft tys [] rall_nt k 4000 (start 81 [.d (.sl (.sl .bool)) reach]) (.node 0) = rall_t k reach := by kernel_rfl
theorem rall_s (reach : List (List Bool)) {r : List RV} (h : ∃ n, rall_t (rall_C.k n) reach = some r) : rall_C.Res 81 [.d (.sl (.sl .bool)) reach] r := by
  obtain ⟨n, h⟩ := h
  exact ⟨n, (rall_eq _ reach).trans h⟩
def rall_h8_t (k : Nat → Cfg → Option (List RV)) (reach : List (List Bool)) (s4 : Int) (r0 : List Int) : Option (List RV) := match decide (s4 < (reach.length : Int)) with | true => (match decide ((r0.length + ([s4]).length) * 8 ≤ 140737488355328 ∧ r0.length + ([s4]).length ≤ 140737488355328) with | true => k 8 (rall_h8 reach (IntKind.i64.wrap (s4 + 1)) (r0 ++ ([s4]))) | false => none) | false => some [RV.new 3 (.int .i64) r0]
theorem rall_h8_eq (k : Nat → Cfg → Option (List RV)) (reach : List (List Bool)) (s4 : Int) (r0 : List Int) : go Try.prog ft tys [] rall_nt k 4000 { rall_h8 reach s4 r0 with K := .lp 8 :: (rall_h8 reach s4 r0).K } (.node 9) = rall_h8_t k reach s4 r0 := by kernel_rfl
theorem rall_h8_s (reach : List (List Bool)) (s4 : Int) (r0 : List Int) {r : List RV} (h : ∃ n, rall_h8_t (rall_C.k n) reach s4 r0 = some r) : rall_C.Runs 8 (rall_h8 reach s4 r0) r := by
  obtain ⟨n, h⟩ := h
  exact ⟨n + 1, (rall_h8_eq _ reach s4 r0).trans h⟩
def rreached_nt : NT := [((80, 6), { keep := [0, 1, 2, 7], hl := 0 })]
noncomputable def rreached_C : Ctx := ⟨Try.prog, ft, tys, [], rreached_nt⟩
def rreached_h6 (reach : List (List Bool)) (l : List Int) (p : Int) (s7 : Int) : Cfg := ⟨80, [.blk 0, .seq 23], [(0, .d (.sl (.sl .bool)) reach), (1, .d (.sl (.int .i64)) l), (2, SI p), (7, SI s7)], [], 0, []⟩
def rreached_t (k : Nat → Cfg → Option (List RV)) (reach : List (List Bool)) (l : List Int) (p : Int) : Option (List RV) := k 6 (rreached_h6 reach l p 0)
theorem rreached_eq (k : Nat → Cfg → Option (List RV)) (reach : List (List Bool)) (l : List Int) (p : Int) : go Try.prog ft tys [] rreached_nt k 4000 (start 80 [.d (.sl (.sl .bool)) reach, .d (.sl (.int .i64)) l, SI p]) (.node 0) = rreached_t k reach l p := by kernel_rfl
theorem rreached_s (reach : List (List Bool)) (l : List Int) (p : Int) {r : List RV} (h : ∃ n, rreached_t (rreached_C.k n) reach l p = some r) : rreached_C.Res 80 [.d (.sl (.sl .bool)) reach, .d (.sl (.int .i64)) l, SI p] r := by
  obtain ⟨n, h⟩ := h
  exact ⟨n, (rreached_eq _ reach l p).trans h⟩
def rreached_h6_t (k : Nat → Cfg → Option (List RV)) (reach : List (List Bool)) (l : List Int) (p : Int) (s7 : Int) : Option (List RV) := match decide (s7 < (l.length : Int)) with | true => (match getI l s7 with | some x1 => (match getI reach x1 with | some x2 => (match getI x2 p with | some x3 => (match x3 with | true => some [RV.d .bool true] | false => k 6 (rreached_h6 reach l p (IntKind.i64.wrap (s7 + 1)))) | none => none) | none => none) | none => none) | false => some [RV.d .bool false]
theorem rreached_h6_eq (k : Nat → Cfg → Option (List RV)) (reach : List (List Bool)) (l : List Int) (p : Int) (s7 : Int) : go Try.prog ft tys [] rreached_nt k 4000 { rreached_h6 reach l p s7 with K := .lp 6 :: (rreached_h6 reach l p s7).K } (.node 7) = rreached_h6_t k reach l p s7 := by kernel_rfl
theorem rreached_h6_s (reach : List (List Bool)) (l : List Int) (p : Int) (s7 : Int) {r : List RV} (h : ∃ n, rreached_h6_t (rreached_C.k n) reach l p s7 = some r) : rreached_C.Runs 6 (rreached_h6 reach l p s7) r := by
  obtain ⟨n, h⟩ := h
  exact ⟨n + 1, (rreached_h6_eq _ reach l p s7).trans h⟩
theorem rall_loop (reach : List (List Bool)) (hb : reach.length ≤ 1000) : ∀ d k, reach.length - k = d → k ≤ reach.length → rall_C.Runs 8 (rall_h8 reach (k : Int) ((List.range k).map fun (i : Nat) => (i : Int))) [.new 3 (.int .i64) (allF reach)] := by
  intro d
  induction d with
  | zero =>
    intro k hd hk
    refine rall_h8_s _ _ _ ⟨0, ?_⟩
    unfold rall_h8_t allF
    rw [ge_dec (by omega), show k = reach.length by omega]
  | succ d ih =>
    intro k hd hk
    refine rall_h8_s _ _ _ ?_
    unfold rall_h8_t
    rw [lt_dec (by omega), wrapS (by omega)]
    simp only [List.length_map, List.length_range, List.length_singleton]
    rw [app_ok (by omega) (by omega)]
    have hn := ih (k + 1) (by omega) (by omega)
    rw [List.range_succ, List.map_append] at hn
    exact hn
theorem rall_con (reach : List (List Bool)) (hb : reach.length ≤ 1000) : Con Try.prog 81 [.d (.sl (.sl .bool)) reach] [.new 3 (.int .i64) (allF reach)] := by
  refine Ctx.Res.con (C := rall_C) (ctx_ok (E := []) trivial) ?_ (fn := Try.f81) (by kernel_rfl) (by kernel_rfl)
  refine rall_s _ ?_
  unfold rall_t
  exact rall_loop reach hb _ 0 rfl (Nat.zero_le _)
def inR (reach : List (List Bool)) (l : List Int) : Bool := l.all fun t => decide (0 ≤ t) && decide (t < (reach.length : Int))
theorem getI_in {α : Type} {xs : List α} {t : Int} (d : α) (h0 : 0 ≤ t) (h1 : t < (xs.length : Int)) : getI xs t = some (xs.getD t.toNat d) := by
  obtain ⟨k, rfl⟩ := Int.eq_ofNat_of_zero_le h0
  have hk : k < xs.length := by omega
  rw [getI_nat, List.getElem?_eq_getElem hk, toNat_nat]
  simp [List.getD, hk]
theorem getD_mem {α : Type} {xs : List α} {t : Int} (d : α) (h0 : 0 ≤ t) (h1 : t < (xs.length : Int)) : xs.getD t.toNat d ∈ xs := by
  have hk : t.toNat < xs.length := by omega
  simp [List.getD, hk]
theorem rreached_loop (reach : List (List Bool)) (l : List Int) (p : Int) (h : rect reach) (hr : inR reach l = true) (hl : l.length ≤ 1000000) (p0 : 0 ≤ p) (p1 : p < (npc reach : Int)) : ∀ d k, l.length - k = d → k ≤ l.length → rreached_C.Runs 6 (rreached_h6 reach l p (k : Int)) [.d .bool (reachedF reach (l.drop k) p)] := by
  intro d
  induction d with
  | zero =>
    intro k hd hk
    refine rreached_h6_s _ _ _ _ ⟨0, ?_⟩
    unfold rreached_h6_t
    rw [ge_dec (by omega), drop_end (by omega)]
    rfl
  | succ d ih =>
    intro k hd hk
    have hlt : k < l.length := by omega
    have hi := List.all_eq_true.1 hr l[k] (List.getElem_mem hlt)
    rw [Bool.and_eq_true] at hi
    have i0 := of_decide_eq_true hi.1
    have i1 := of_decide_eq_true hi.2
    have hm := h _ (getD_mem [] i0 i1)
    refine rreached_h6_s _ _ _ _ ?_
    unfold rreached_h6_t
    rw [lt_dec hlt, getI_nat, List.getElem?_eq_getElem hlt, drop_get hlt]
    dsimp only
    rw [getI_in [] i0 i1]
    dsimp only
    rw [getI_in false p0 (by rw [hm]; exact p1), wrapS (by omega)]
    have hn := ih (k + 1) (by omega) (by omega)
    have he : reachedF reach (l[k] :: l.drop (k + 1)) p = ((reach.getD l[k].toNat []).getD p.toNat false || reachedF reach (l.drop (k + 1)) p) := rfl
    rw [he]
    cases hc : (reach.getD l[k].toNat []).getD p.toNat false with
    | true => exact ⟨0, rfl⟩
    | false => exact hn
theorem rreached_con (reach : List (List Bool)) (l : List Int) (p : Int) (hp : small3 reach ∧ inR reach l = true ∧ l.length ≤ 1000000 ∧ 0 ≤ p ∧ p < (npc reach : Int)) : Con Try.prog 80 [.d (.sl (.sl .bool)) reach, .d (.sl (.int .i64)) l, SI p] [.d .bool (reachedF reach l p)] := by
  refine Ctx.Res.con (C := rreached_C) (ctx_ok (E := []) trivial) ?_ (fn := Try.f80) (by kernel_rfl) (by kernel_rfl)
  refine rreached_s _ _ _ ?_
  unfold rreached_t
  exact rreached_loop reach l p hp.1.rect hp.2.1 hp.2.2.1 hp.2.2.2.1 hp.2.2.2.2 _ 0 rfl (Nat.zero_le _)
def rall_sp : Spec := { keep := true, run := fun _ args k => match args with
  | [.d (.sl (.sl .bool)) reach] => match decide (reach.length ≤ 1000) with
    | true => k [RV.new 3 (.int .i64) (allF reach)]
    | false => none
  | _ => none }
theorem rall_spec : callable Try.prog 81 = true ∧ SpecOk Try.prog 81 rall_sp ∧ ∀ g, rall_sp.mut_ = some g → MCon Try.prog 81 g := by
  refine ⟨by kernel_rfl, fun R args k r h => ?_, fun g h => by simp [rall_sp] at h⟩
  unfold rall_sp at h
  dsimp only at h
  split at h <;> try (cases h; done)
  split at h <;> try (cases h; done)
  rename_i hd
  exact ⟨_, h, rall_con _ (of_decide_eq_true hd)⟩
def rreached_sp : Spec := { keep := true, run := fun _ args k => match args with
  | [.d (.sl (.sl .bool)) reach, .d (.sl (.int .i64)) l, .d (.int .i64) p] => match decide (small3 reach ∧ inR reach l = true ∧ l.length ≤ 1000000 ∧ 0 ≤ p ∧ p < (npc reach : Int)) with
    | true => k [RV.d .bool (reachedF reach l p)]
    | false => none
  | _ => none }
theorem rreached_spec : callable Try.prog 80 = true ∧ SpecOk Try.prog 80 rreached_sp ∧ ∀ g, rreached_sp.mut_ = some g → MCon Try.prog 80 g := by
  refine ⟨by kernel_rfl, fun R args k r h => ?_, fun g h => by simp [rreached_sp] at h⟩
  unfold rreached_sp at h
  dsimp only at h
  split at h <;> try (cases h; done)
  split at h <;> try (cases h; done)
  rename_i hd
  exact ⟨_, h, rreached_con _ _ _ (of_decide_eq_true hd)⟩
def env3 : Env := [(77, cpieces_sp), (78, rpieces_sp), (81, rall_sp), (80, rreached_sp)]
theorem env3_ok : EnvAll Try.prog env3 := ⟨cpieces_spec, rpieces_spec, rall_spec, rreached_spec, trivial⟩
def ccov_nt : NT := [((50, 8), { keep := [3, 11, 12, 13], hl := 1 }), ((50, 22), { keep := [3, 11, 12, 13, 17, 18, 19], hl := 1 })]
noncomputable def ccov_C : Ctx := ⟨Try.prog, ft, tys, env3, ccov_nt⟩
def ccov_h8 (reach : List (List Bool)) (s13 : Int) (r0 : List Bool) : Cfg := ⟨50, [.blk 0, .seq 36], [(3, .own 0), (11, .d (.sl (.sl .bool)) reach), (12, SI (reach.length : Int)), (13, SI s13)], [.row 4 .bool r0], 0, []⟩
def ccov_h22 (reach : List (List Bool)) (s13 : Int) (x1 : List Bool) (s19 : Int) (r0 : List Bool) : Cfg := ⟨50, [.blk 2, .blk 1, .seq 35, .lp 8, .blk 0, .seq 36], [(3, .own 0), (11, .d (.sl (.sl .bool)) reach), (12, SI (reach.length : Int)), (13, SI s13), (17, .d (.sl .bool) x1), (18, SI (x1.length : Int)), (19, SI s19)], [.row 4 .bool r0], 0, []⟩
def ccov_t (k : Nat → Cfg → Option (List RV)) (reach : List (List Bool)) : Option (List RV) := match decide ((0 : Int) ≤ (npc reach : Int) ∧ (npc reach : Int) * ((1 : Nat) : Int) ≤ 140737488355328 ∧ (npc reach : Int) ≤ 140737488355328) with | true => k 8 (ccov_h8 reach 0 (List.replicate ((npc reach : Int)).toNat false)) | false => none
theorem ccov_eq (k : Nat → Cfg → Option (List RV)) (reach : List (List Bool)) : go Try.prog ft tys env3 ccov_nt k 4000 (start 50 [.d (.sl (.sl .bool)) reach]) (.node 0) = ccov_t k reach := by kernel_rfl
theorem ccov_s (reach : List (List Bool)) {r : List RV} (h : ∃ n, ccov_t (ccov_C.k n) reach = some r) : ccov_C.Res 50 [.d (.sl (.sl .bool)) reach] r := by
  obtain ⟨n, h⟩ := h
  exact ⟨n, (ccov_eq _ reach).trans h⟩
def ccov_h8_t (k : Nat → Cfg → Option (List RV)) (reach : List (List Bool)) (s13 : Int) (r0 : List Bool) : Option (List RV) := match decide (s13 < (reach.length : Int)) with | true => (match getI reach s13 with | some x1 => k 22 (ccov_h22 reach s13 x1 0 r0) | none => none) | false => some [RV.new 4 .bool r0]
theorem ccov_h8_eq (k : Nat → Cfg → Option (List RV)) (reach : List (List Bool)) (s13 : Int) (r0 : List Bool) : go Try.prog ft tys env3 ccov_nt k 4000 { ccov_h8 reach s13 r0 with K := .lp 8 :: (ccov_h8 reach s13 r0).K } (.node 9) = ccov_h8_t k reach s13 r0 := by kernel_rfl
theorem ccov_h8_s (reach : List (List Bool)) (s13 : Int) (r0 : List Bool) {r : List RV} (h : ∃ n, ccov_h8_t (ccov_C.k n) reach s13 r0 = some r) : ccov_C.Runs 8 (ccov_h8 reach s13 r0) r := by
  obtain ⟨n, h⟩ := h
  exact ⟨n + 1, (ccov_h8_eq _ reach s13 r0).trans h⟩
def ccov_h22_t (k : Nat → Cfg → Option (List RV)) (reach : List (List Bool)) (s13 : Int) (x1 : List Bool) (s19 : Int) (r0 : List Bool) : Option (List RV) := match decide (s19 < (x1.length : Int)) with | true => (match getI x1 s19 with | some x2 => (match getI r0 s19 with | some _ => (match true, r0[(s19).toNat]? with | true, some x3 => (match x3 with | true => (match getI r0 s19 with | some _ => (match true, r0[(s19).toNat]? with | true, some _ => k 22 (ccov_h22 reach s13 x1 (IntKind.i64.wrap (s19 + 1)) (r0.set ((s19).toNat) true)) | _, _ => none) | none => none) | false => (match getI r0 s19 with | some _ => (match true, r0[(s19).toNat]? with | true, some _ => k 22 (ccov_h22 reach s13 x1 (IntKind.i64.wrap (s19 + 1)) (r0.set ((s19).toNat) x2)) | _, _ => none) | none => none)) | _, _ => none) | none => none) | none => none) | false => k 8 (ccov_h8 reach (IntKind.i64.wrap (s13 + 1)) r0)
theorem ccov_h22_eq (k : Nat → Cfg → Option (List RV)) (reach : List (List Bool)) (s13 : Int) (x1 : List Bool) (s19 : Int) (r0 : List Bool) : go Try.prog ft tys env3 ccov_nt k 4000 { ccov_h22 reach s13 x1 s19 r0 with K := .lp 22 :: (ccov_h22 reach s13 x1 s19 r0).K } (.node 23) = ccov_h22_t k reach s13 x1 s19 r0 := by kernel_rfl
theorem ccov_h22_s (reach : List (List Bool)) (s13 : Int) (x1 : List Bool) (s19 : Int) (r0 : List Bool) {r : List RV} (h : ∃ n, ccov_h22_t (ccov_C.k n) reach s13 x1 s19 r0 = some r) : ccov_C.Runs 22 (ccov_h22 reach s13 x1 s19 r0) r := by
  obtain ⟨n, h⟩ := h
  exact ⟨n + 1, (ccov_h22_eq _ reach s13 x1 s19 r0).trans h⟩
def rcov_nt : NT := [((51, 8), { keep := [0, 3, 4], own := [(3, 4, .bool)], hl := 1 })]
noncomputable def rcov_C : Ctx := ⟨Try.prog, ft, tys, env3, rcov_nt⟩
def rcov_h8 (reach : List (List Bool)) (s4 : Int) (r0 : List Bool) : Cfg := ⟨51, [.blk 0, .seq 19], [(0, .d (.sl (.sl .bool)) reach), (3, .own 0), (4, SI s4)], [.row 4 .bool r0], 0, []⟩
def rcov_t (k : Nat → Cfg → Option (List RV)) (reach : List (List Bool)) : Option (List RV) := k 8 (rcov_h8 reach 0 ([]))
theorem rcov_eq (k : Nat → Cfg → Option (List RV)) (reach : List (List Bool)) : go Try.prog ft tys env3 rcov_nt k 4000 (start 51 [.d (.sl (.sl .bool)) reach]) (.node 0) = rcov_t k reach := by kernel_rfl
theorem rcov_s (reach : List (List Bool)) {r : List RV} (h : ∃ n, rcov_t (rcov_C.k n) reach = some r) : rcov_C.Res 51 [.d (.sl (.sl .bool)) reach] r := by
  obtain ⟨n, h⟩ := h
  exact ⟨n, (rcov_eq _ reach).trans h⟩
def rcov_h8_t (k : Nat → Cfg → Option (List RV)) (reach : List (List Bool)) (s4 : Int) (r0 : List Bool) : Option (List RV) := match decide (s4 < (npc reach : Int)) with | true => (match decide (reach.length ≤ 1000) with | true => (match decide (small3 reach ∧ inR reach (allF reach) = true ∧ (allF reach).length ≤ 1000000 ∧ 0 ≤ s4 ∧ s4 < (npc reach : Int)) with | true => (match decide ((r0.length + ([reachedF reach (allF reach) s4]).length) * 1 ≤ 140737488355328 ∧ r0.length + ([reachedF reach (allF reach) s4]).length ≤ 140737488355328) with | true => k 8 (rcov_h8 reach (IntKind.i64.wrap (s4 + 1)) (r0 ++ ([reachedF reach (allF reach) s4]))) | false => none) | false => none) | false => none) | false => some [RV.new 4 .bool r0]
theorem rcov_h8_eq (k : Nat → Cfg → Option (List RV)) (reach : List (List Bool)) (s4 : Int) (r0 : List Bool) : go Try.prog ft tys env3 rcov_nt k 4000 { rcov_h8 reach s4 r0 with K := .lp 8 :: (rcov_h8 reach s4 r0).K } (.node 9) = rcov_h8_t k reach s4 r0 := by kernel_rfl
theorem rcov_h8_s (reach : List (List Bool)) (s4 : Int) (r0 : List Bool) {r : List RV} (h : ∃ n, rcov_h8_t (rcov_C.k n) reach s4 r0 = some r) : rcov_C.Runs 8 (rcov_h8 reach s4 r0) r := by
  obtain ⟨n, h⟩ := h
  exact ⟨n + 1, (rcov_h8_eq _ reach s4 r0).trans h⟩
def contb_nt : NT := [((91, 6), { keep := [0, 1, 7, 8], hl := 0 })]
noncomputable def contb_C : Ctx := ⟨Try.prog, ft, tys, [], contb_nt⟩
def contb_h91_6 (s : List Bool) (v : Bool) (s91_8 : Int) : Cfg := ⟨91, [.blk 0, .seq 25], [(0, .d (.sl .bool) s), (1, SB v), (7, SI (s.length : Int)), (8, SI s91_8)], [], 0, [⟨74, [.seq 4], 3, 2, [(6, SB v), (5, .d (.sl .bool) s), (4, SB false), (0, .d (.sl .bool) s), (1, SB v)], 0⟩]⟩
def contb_t (k : Nat → Cfg → Option (List RV)) (s : List Bool) (v : Bool) : Option (List RV) := k 6 (contb_h91_6 s v 0)
theorem contb_eq (k : Nat → Cfg → Option (List RV)) (s : List Bool) (v : Bool) : go Try.prog ft tys [] contb_nt k 4000 (start 74 [.d (.sl .bool) s, SB v]) (.node 0) = contb_t k s v := by kernel_rfl
theorem contb_s (s : List Bool) (v : Bool) {r : List RV} (h : ∃ n, contb_t (contb_C.k n) s v = some r) : contb_C.Res 74 [.d (.sl .bool) s, SB v] r := by
  obtain ⟨n, h⟩ := h
  exact ⟨n, (contb_eq _ s v).trans h⟩
def contb_h91_6_t (k : Nat → Cfg → Option (List RV)) (s : List Bool) (v : Bool) (s91_8 : Int) : Option (List RV) := match decide (s91_8 < (s.length : Int)) with | true => (match getI s s91_8 with | some x1 => (match v == x1 with | true => some [RV.d .bool (decide (s91_8 ≥ 0))] | false => k 6 (contb_h91_6 s v (IntKind.i64.wrap (s91_8 + 1)))) | none => none) | false => some [RV.d .bool (decide ((-1) ≥ 0))]
theorem contb_h91_6_eq (k : Nat → Cfg → Option (List RV)) (s : List Bool) (v : Bool) (s91_8 : Int) : go Try.prog ft tys [] contb_nt k 4000 { contb_h91_6 s v s91_8 with K := .lp 6 :: (contb_h91_6 s v s91_8).K } (.node 7) = contb_h91_6_t k s v s91_8 := by kernel_rfl
theorem contb_h91_6_s (s : List Bool) (v : Bool) (s91_8 : Int) {r : List RV} (h : ∃ n, contb_h91_6_t (contb_C.k n) s v s91_8 = some r) : contb_C.Runs 6 (contb_h91_6 s v s91_8) r := by
  obtain ⟨n, h⟩ := h
  exact ⟨n + 1, (contb_h91_6_eq _ s v s91_8).trans h⟩
def orRow (l : List Bool) (i : Nat) (x : Bool) : Bool := x || l.getD i false
theorem ccov_inner (reach : List (List Bool)) (t : Int) (l a : List Bool) (r : List RV) (hl : l.length = a.length) (hb : l.length ≤ 1000) (hk : ccov_C.Runs 8 (ccov_h8 reach (IntKind.i64.wrap (t + 1)) (a.mapIdx (orRow l))) r) :
    ∀ d k, l.length - k = d → k ≤ l.length → ccov_C.Runs 22 (ccov_h22 reach t l (k : Int) (updTo (orRow l) k a)) r := by
  intro d
  induction d with
  | zero =>
    intro k hd hkl
    refine ccov_h22_s _ _ _ _ _ ?_
    unfold ccov_h22_t
    rw [ge_dec (by omega), updTo_all _ _ _ (by omega)]
    exact hk
  | succ d ih =>
    intro k hd hkl
    have h1 : k < l.length := by omega
    have h2 : k < a.length := by omega
    refine ccov_h22_s _ _ _ _ _ ?_
    unfold ccov_h22_t
    rw [lt_dec h1, getI_nat, getI_nat, toNat_nat, updTo_get, List.getElem?_eq_getElem h1, List.getElem?_eq_getElem h2, wrapS (by omega)]
    have hs := updTo_set (orRow l) a k h2
    have hg : l.getD k false = l[k] := by simp [List.getD, h1]
    have hn := ih (k + 1) (by omega) (by omega)
    rw [← hs] at hn
    unfold orRow at hn ⊢
    rw [hg] at hn
    cases hx : a[k] with
    | true => rw [hx] at hn; exact hn
    | false => rw [hx] at hn; exact hn
end Go.Proofs.Ytfkidjkpgliffaa

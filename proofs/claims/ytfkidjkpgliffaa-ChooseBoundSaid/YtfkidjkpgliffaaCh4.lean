/- choose: Coverable of both sides, Contains; Covers of both sides. -/
import Derived.Test.YtfkidjkpgliffaaCh3
namespace Go.Proofs.Ytfkidjkpgliffaa
open Go.RowKit
def covTo (reach : List (List Bool)) (t : Nat) : List Bool := (List.range (npc reach)).map fun p => (reach.take t).any fun l => l.getD p false
theorem covTo_len (reach : List (List Bool)) (t : Nat) : (covTo reach t).length = npc reach := by simp [covTo]
theorem covTo_zero (reach : List (List Bool)) : covTo reach 0 = List.replicate (npc reach) false := by
  unfold covTo
  apply List.ext_getElem
  · simp
  · intro i h1 h2; simp
theorem covTo_all (reach : List (List Bool)) : covTo reach reach.length = covF reach := by simp [covTo, covF]
theorem mapIdx_range {α : Type} (n : Nat) (f : Nat → α) (g : Nat → α → α) : ((List.range n).map f).mapIdx g = (List.range n).map fun i => g i (f i) := by
  apply List.ext_getElem
  · simp
  · intro i h1 h2; simp
theorem covTo_step (reach : List (List Bool)) (t : Nat) (h : t < reach.length) : (covTo reach t).mapIdx (orRow reach[t]) = covTo reach (t + 1) := by
  unfold covTo
  rw [mapIdx_range]
  apply List.map_congr_left
  intro p _
  rw [List.take_succ_eq_append_getElem h, List.any_append]
  simp [orRow]
theorem npc_le {reach : List (List Bool)} (h : small3 reach) : npc reach ≤ 1000 := h.2.1
theorem ccov_loop (reach : List (List Bool)) (h : small3 reach) : ∀ d k, reach.length - k = d → k ≤ reach.length → ccov_C.Runs 8 (ccov_h8 reach (k : Int) (covTo reach k)) [.new 4 .bool (covF reach)] := by
  intro d
  induction d with
  | zero =>
    intro k hd hk
    refine ccov_h8_s _ _ _ ⟨0, ?_⟩
    unfold ccov_h8_t
    rw [ge_dec (by omega), show k = reach.length by omega, covTo_all]
  | succ d ih =>
    intro k hd hk
    have hlt : k < reach.length := by omega
    have hr := h.rect _ (List.getElem_mem hlt)
    have h1 := h.1
    have h2 := h.2.1
    refine ccov_h8_s _ _ _ ?_
    unfold ccov_h8_t
    rw [lt_dec hlt, getI_nat, List.getElem?_eq_getElem hlt]
    have hn := ih (k + 1) (by omega) (by omega)
    rw [← covTo_step reach k hlt, ← wrapS (show k + 1 ≤ 9223372036854775807 by omega)] at hn
    have := ccov_inner reach (k : Int) reach[k] (covTo reach k) _ (by rw [hr, covTo_len]) (by omega) hn _ 0 rfl (Nat.zero_le _)
    rw [updTo_zero] at this
    exact this
theorem mk_ok {n : Nat} (h : n ≤ 1000000) : decide ((0 : Int) ≤ (n : Int) ∧ (n : Int) * ((1 : Nat) : Int) ≤ 140737488355328 ∧ (n : Int) ≤ 140737488355328) = true := decide_eq_true (by omega)
theorem ccov_con (reach : List (List Bool)) (h : small3 reach) : Con Try.prog 50 [.d (.sl (.sl .bool)) reach] [.new 4 .bool (covF reach)] := by
  refine Ctx.Res.con (C := ccov_C) (ctx_ok env3_ok) ?_ (fn := Try.f50) (by kernel_rfl) (by kernel_rfl)
  refine ccov_s _ ?_
  have h2 := h.2.1
  unfold ccov_t
  rw [mk_ok (by omega), toNat_nat, ← covTo_zero]
  exact ccov_loop reach h _ 0 rfl (Nat.zero_le _)
theorem all_rows (reach : List (List Bool)) : (List.range reach.length).map (fun i => reach.getD i []) = reach := by
  apply List.ext_getElem
  · simp
  · intro i h1 h2; simp [List.getD, h2]
theorem reached_all (reach : List (List Bool)) (p : Nat) : reachedF reach (allF reach) (p : Int) = reach.any fun l => l.getD p false := by
  conv => rhs; rw [← all_rows reach]
  unfold reachedF allF
  rw [List.any_map, List.any_map]
  rfl
theorem inR_all (reach : List (List Bool)) : inR reach (allF reach) = true := by
  unfold inR allF
  simp
theorem allF_len (reach : List (List Bool)) : (allF reach).length = reach.length := by simp [allF]
theorem rcov_loop (reach : List (List Bool)) (h : small3 reach) : ∀ d k, npc reach - k = d → k ≤ npc reach → rcov_C.Runs 8 (rcov_h8 reach (k : Int) ((List.range k).map fun p => reach.any fun l => l.getD p false)) [.new 4 .bool (covF reach)] := by
  have h1 := h.1
  have h2 := h.2.1
  intro d
  induction d with
  | zero =>
    intro k hd hk
    refine rcov_h8_s _ _ _ ⟨0, ?_⟩
    unfold rcov_h8_t
    rw [ge_dec (by omega), show k = npc reach by omega]
    rfl
  | succ d ih =>
    intro k hd hk
    refine rcov_h8_s _ _ _ ?_
    unfold rcov_h8_t
    rw [lt_dec (by omega), decide_eq_true h1, decide_eq_true (show small3 reach ∧ inR reach (allF reach) = true ∧ (allF reach).length ≤ 1000000 ∧ 0 ≤ (k : Int) ∧ (k : Int) < (npc reach : Int) from ⟨h, inR_all _, by rw [allF_len]; omega, by omega, by omega⟩), wrapS (by omega), reached_all]
    simp only [List.length_map, List.length_range, List.length_singleton]
    rw [app_ok (by omega) (by omega)]
    have hn := ih (k + 1) (by omega) (by omega)
    rw [List.range_succ, List.map_append] at hn
    exact hn
theorem rcov_con (reach : List (List Bool)) (h : small3 reach) : Con Try.prog 51 [.d (.sl (.sl .bool)) reach] [.new 4 .bool (covF reach)] := by
  refine Ctx.Res.con (C := rcov_C) (ctx_ok env3_ok) ?_ (fn := Try.f51) (by kernel_rfl) (by kernel_rfl)
  refine rcov_s _ ?_
  unfold rcov_t
  exact rcov_loop reach h _ 0 rfl (Nat.zero_le _)
theorem contb_loop (s : List Bool) (v : Bool) (hb : s.length ≤ 1000000) : ∀ d k, s.length - k = d → k ≤ s.length → contb_C.Runs 6 (contb_h91_6 s v (k : Int)) [.d .bool ((s.drop k).any fun x => v == x)] := by
  intro d
  induction d with
  | zero =>
    intro k hd hk
    refine contb_h91_6_s _ _ _ ⟨0, ?_⟩
    unfold contb_h91_6_t
    rw [ge_dec (by omega), drop_end (by omega)]
    rfl
  | succ d ih =>
    intro k hd hk
    have hlt : k < s.length := by omega
    refine contb_h91_6_s _ _ _ ?_
    unfold contb_h91_6_t
    rw [lt_dec hlt, getI_nat, List.getElem?_eq_getElem hlt, drop_get hlt, List.any_cons, wrapS (by omega)]
    have hn := ih (k + 1) (by omega) (by omega)
    dsimp only
    cases hc : v == s[k] with
    | true => refine ⟨0, ?_⟩; rw [decide_eq_true (show (k : Int) ≥ 0 by omega)]; rfl
    | false => exact hn
theorem contb_con (s : List Bool) (v : Bool) (hb : s.length ≤ 1000000) : Con Try.prog 74 [.d (.sl .bool) s, SB v] [.d .bool (s.any fun x => v == x)] := by
  refine Ctx.Res.con (C := contb_C) (ctx_ok (E := []) trivial) ?_ (fn := Try.f74) (by kernel_rfl) (by kernel_rfl)
  refine contb_s _ _ ?_
  unfold contb_t
  exact contb_loop s v hb _ 0 rfl (Nat.zero_le _)
def ccov_sp : Spec := { keep := true, run := fun _ args k => match args with
  | [.d (.sl (.sl .bool)) reach] => match decide (small3 reach) with
    | true => k [RV.new 4 .bool (covF reach)]
    | false => none
  | _ => none }
theorem ccov_spec : callable Try.prog 50 = true ∧ SpecOk Try.prog 50 ccov_sp ∧ ∀ g, ccov_sp.mut_ = some g → MCon Try.prog 50 g := by
  refine ⟨by kernel_rfl, fun R args k r h => ?_, fun g h => by simp [ccov_sp] at h⟩
  unfold ccov_sp at h
  dsimp only at h
  split at h <;> try (cases h; done)
  split at h <;> try (cases h; done)
  rename_i hd
  exact ⟨_, h, ccov_con _ (of_decide_eq_true hd)⟩
def rcov_sp : Spec := { keep := true, run := fun _ args k => match args with
  | [.d (.sl (.sl .bool)) reach] => match decide (small3 reach) with
    | true => k [RV.new 4 .bool (covF reach)]
    | false => none
  | _ => none }
theorem rcov_spec : callable Try.prog 51 = true ∧ SpecOk Try.prog 51 rcov_sp ∧ ∀ g, rcov_sp.mut_ = some g → MCon Try.prog 51 g := by
  refine ⟨by kernel_rfl, fun R args k r h => ?_, fun g h => by simp [rcov_sp] at h⟩
  unfold rcov_sp at h
  dsimp only at h
  split at h <;> try (cases h; done)
  split at h <;> try (cases h; done)
  rename_i hd
  exact ⟨_, h, rcov_con _ (of_decide_eq_true hd)⟩
def contb_sp : Spec := { keep := true, run := fun _ args k => match args with
  | [.d (.sl .bool) s, .d .bool v] => match decide (s.length ≤ 1000000) with
    | true => k [RV.d .bool (s.any fun x => v == x)]
    | false => none
  | _ => none }
theorem contb_spec : callable Try.prog 74 = true ∧ SpecOk Try.prog 74 contb_sp ∧ ∀ g, contb_sp.mut_ = some g → MCon Try.prog 74 g := by
  refine ⟨by kernel_rfl, fun R args k r h => ?_, fun g h => by simp [contb_sp] at h⟩
  unfold contb_sp at h
  dsimp only at h
  split at h <;> try (cases h; done)
  split at h <;> try (cases h; done)
  rename_i hd
  exact ⟨_, h, contb_con _ _ (of_decide_eq_true hd)⟩
def env4 : Env := [(50, ccov_sp), (51, rcov_sp), (74, contb_sp), (80, rreached_sp)]
theorem env4_ok : EnvAll Try.prog env4 := ⟨ccov_spec, rcov_spec, contb_spec, rreached_spec, trivial⟩
def ccs_nt : NT := [((52, 8), { keep := [0, 5, 12, 13, 14], hl := 1 }), ((52, 30), { keep := [0, 5, 12, 13, 14, 29, 30, 31], hl := 1 })]
noncomputable def ccs_C : Ctx := ⟨Try.prog, ft, tys, env4, ccs_nt⟩
def ccs_h8 (reach : List (List Bool)) (l : List Int) (s14 : Int) (r0 : List Bool) : Cfg := ⟨52, [.blk 0, .seq 44], [(0, .d (.sl (.sl .bool)) reach), (5, .own 0), (12, .d (.sl (.int .i64)) l), (13, SI (l.length : Int)), (14, SI s14)], [.row 4 .bool r0], 0, []⟩
def ccs_h30 (reach : List (List Bool)) (l : List Int) (s14 : Int) (x2 : List Bool) (s31 : Int) (r0 : List Bool) : Cfg := ⟨52, [.blk 2, .blk 1, .seq 43, .lp 8, .blk 0, .seq 44], [(0, .d (.sl (.sl .bool)) reach), (5, .own 0), (12, .d (.sl (.int .i64)) l), (13, SI (l.length : Int)), (14, SI s14), (29, .d (.sl .bool) x2), (30, SI (x2.length : Int)), (31, SI s31)], [.row 4 .bool r0], 0, []⟩
def ccs_t (k : Nat → Cfg → Option (List RV)) (reach : List (List Bool)) (l : List Int) : Option (List RV) := match decide (small3 reach) with | true => k 8 (ccs_h8 reach l 0 (covF reach)) | false => none
theorem ccs_eq (k : Nat → Cfg → Option (List RV)) (reach : List (List Bool)) (l : List Int) : go Try.prog ft tys env4 ccs_nt k 4000 (start 52 [.d (.sl (.sl .bool)) reach, .d (.sl (.int .i64)) l]) (.node 0) = ccs_t k reach l := by kernel_rfl
theorem ccs_s (reach : List (List Bool)) (l : List Int) {r : List RV} (h : ∃ n, ccs_t (ccs_C.k n) reach l = some r) : ccs_C.Res 52 [.d (.sl (.sl .bool)) reach, .d (.sl (.int .i64)) l] r := by
  obtain ⟨n, h⟩ := h
  exact ⟨n, (ccs_eq _ reach l).trans h⟩
def ccs_h8_t (k : Nat → Cfg → Option (List RV)) (reach : List (List Bool)) (l : List Int) (s14 : Int) (r0 : List Bool) : Option (List RV) := match decide (s14 < (l.length : Int)) with | true => (match getI l s14 with | some x1 => (match decide (x1 < 0) with | true => some [RV.d .bool false] | false => (match decide (x1 ≥ (reach.length : Int)) with | true => some [RV.d .bool false] | false => (match getI reach x1 with | some x2 => k 30 (ccs_h30 reach l s14 x2 0 r0) | none => none))) | none => none) | false => (match decide (r0.length ≤ 1000000) with | true => some [RV.d .bool (!(r0.any fun x => true == x))] | false => none)
theorem ccs_h8_eq (k : Nat → Cfg → Option (List RV)) (reach : List (List Bool)) (l : List Int) (s14 : Int) (r0 : List Bool) : go Try.prog ft tys env4 ccs_nt k 4000 { ccs_h8 reach l s14 r0 with K := .lp 8 :: (ccs_h8 reach l s14 r0).K } (.node 9) = ccs_h8_t k reach l s14 r0 := by kernel_rfl
theorem ccs_h8_s (reach : List (List Bool)) (l : List Int) (s14 : Int) (r0 : List Bool) {r : List RV} (h : ∃ n, ccs_h8_t (ccs_C.k n) reach l s14 r0 = some r) : ccs_C.Runs 8 (ccs_h8 reach l s14 r0) r := by
  obtain ⟨n, h⟩ := h
  exact ⟨n + 1, (ccs_h8_eq _ reach l s14 r0).trans h⟩
def ccs_h30_t (k : Nat → Cfg → Option (List RV)) (reach : List (List Bool)) (l : List Int) (s14 : Int) (x2 : List Bool) (s31 : Int) (r0 : List Bool) : Option (List RV) := match decide (s31 < (x2.length : Int)) with | true => (match getI x2 s31 with | some x3 => (match getI r0 s31 with | some _ => (match true, r0[(s31).toNat]? with | true, some x4 => (match x4 with | true => (match getI r0 s31 with | some _ => (match true, r0[(s31).toNat]? with | true, some _ => k 30 (ccs_h30 reach l s14 x2 (IntKind.i64.wrap (s31 + 1)) (r0.set ((s31).toNat) (!x3))) | _, _ => none) | none => none) | false => (match getI r0 s31 with | some _ => (match true, r0[(s31).toNat]? with | true, some _ => k 30 (ccs_h30 reach l s14 x2 (IntKind.i64.wrap (s31 + 1)) (r0.set ((s31).toNat) false)) | _, _ => none) | none => none)) | _, _ => none) | none => none) | none => none) | false => k 8 (ccs_h8 reach l (IntKind.i64.wrap (s14 + 1)) r0)
theorem ccs_h30_eq (k : Nat → Cfg → Option (List RV)) (reach : List (List Bool)) (l : List Int) (s14 : Int) (x2 : List Bool) (s31 : Int) (r0 : List Bool) : go Try.prog ft tys env4 ccs_nt k 4000 { ccs_h30 reach l s14 x2 s31 r0 with K := .lp 30 :: (ccs_h30 reach l s14 x2 s31 r0).K } (.node 31) = ccs_h30_t k reach l s14 x2 s31 r0 := by kernel_rfl
theorem ccs_h30_s (reach : List (List Bool)) (l : List Int) (s14 : Int) (x2 : List Bool) (s31 : Int) (r0 : List Bool) {r : List RV} (h : ∃ n, ccs_h30_t (ccs_C.k n) reach l s14 x2 s31 r0 = some r) : ccs_C.Runs 30 (ccs_h30 reach l s14 x2 s31 r0) r := by
  obtain ⟨n, h⟩ := h
  exact ⟨n + 1, (ccs_h30_eq _ reach l s14 x2 s31 r0).trans h⟩
def rcs_nt : NT := [((48, 6), { keep := [0, 1, 5], hl := 0 }), ((48, 29), { keep := [0, 1, 6, 7], hl := 1 })]
noncomputable def rcs_C : Ctx := ⟨Try.prog, ft, tys, env4, rcs_nt⟩
def rcs_h6 (reach : List (List Bool)) (l : List Int) (s5 : Int) : Cfg := ⟨48, [.blk 0, .seq 23], [(0, .d (.sl (.sl .bool)) reach), (1, .d (.sl (.int .i64)) l), (5, SI s5)], [], 0, []⟩
def rcs_h29 (reach : List (List Bool)) (l : List Int) (s7 : Int) : Cfg := ⟨48, [.blk 2, .seq 46], [(0, .d (.sl (.sl .bool)) reach), (1, .d (.sl (.int .i64)) l), (6, .own 0), (7, SI s7)], [.row 4 .bool (covF reach)], 0, []⟩
def rcs_t (k : Nat → Cfg → Option (List RV)) (reach : List (List Bool)) (l : List Int) : Option (List RV) := k 6 (rcs_h6 reach l 0)
theorem rcs_eq (k : Nat → Cfg → Option (List RV)) (reach : List (List Bool)) (l : List Int) : go Try.prog ft tys env4 rcs_nt k 4000 (start 48 [.d (.sl (.sl .bool)) reach, .d (.sl (.int .i64)) l]) (.node 0) = rcs_t k reach l := by kernel_rfl
theorem rcs_s (reach : List (List Bool)) (l : List Int) {r : List RV} (h : ∃ n, rcs_t (rcs_C.k n) reach l = some r) : rcs_C.Res 48 [.d (.sl (.sl .bool)) reach, .d (.sl (.int .i64)) l] r := by
  obtain ⟨n, h⟩ := h
  exact ⟨n, (rcs_eq _ reach l).trans h⟩
def rcs_h6_t (k : Nat → Cfg → Option (List RV)) (reach : List (List Bool)) (l : List Int) (s5 : Int) : Option (List RV) := match decide (s5 < (l.length : Int)) with | true => (match getI l s5 with | some x1 => (match decide (x1 < 0) with | true => some [RV.d .bool false] | false => (match getI l s5 with | some x2 => (match decide (x2 ≥ (reach.length : Int)) with | true => some [RV.d .bool false] | false => k 6 (rcs_h6 reach l (IntKind.i64.wrap (s5 + 1)))) | none => none)) | none => none) | false => (match decide (small3 reach) with | true => k 29 (rcs_h29 reach l 0) | false => none)
theorem rcs_h6_eq (k : Nat → Cfg → Option (List RV)) (reach : List (List Bool)) (l : List Int) (s5 : Int) : go Try.prog ft tys env4 rcs_nt k 4000 { rcs_h6 reach l s5 with K := .lp 6 :: (rcs_h6 reach l s5).K } (.node 7) = rcs_h6_t k reach l s5 := by kernel_rfl
theorem rcs_h6_s (reach : List (List Bool)) (l : List Int) (s5 : Int) {r : List RV} (h : ∃ n, rcs_h6_t (rcs_C.k n) reach l s5 = some r) : rcs_C.Runs 6 (rcs_h6 reach l s5) r := by
  obtain ⟨n, h⟩ := h
  exact ⟨n + 1, (rcs_h6_eq _ reach l s5).trans h⟩
def rcs_h29_t (k : Nat → Cfg → Option (List RV)) (reach : List (List Bool)) (l : List Int) (s7 : Int) : Option (List RV) := match decide (s7 < ((covF reach).length : Int)) with | true => (match getI (covF reach) s7 with | some _ => (match true, (covF reach)[(s7).toNat]? with | true, some x3 => (match x3 with | true => (match decide (small3 reach ∧ inR reach l = true ∧ l.length ≤ 1000000 ∧ 0 ≤ s7 ∧ s7 < (npc reach : Int)) with | true => (match !(reachedF reach l s7) with | true => some [RV.d .bool false] | false => k 29 (rcs_h29 reach l (IntKind.i64.wrap (s7 + 1)))) | false => none) | false => k 29 (rcs_h29 reach l (IntKind.i64.wrap (s7 + 1)))) | _, _ => none) | none => none) | false => some [RV.d .bool true]
theorem rcs_h29_eq (k : Nat → Cfg → Option (List RV)) (reach : List (List Bool)) (l : List Int) (s7 : Int) : go Try.prog ft tys env4 rcs_nt k 4000 { rcs_h29 reach l s7 with K := .lp 29 :: (rcs_h29 reach l s7).K } (.node 30) = rcs_h29_t k reach l s7 := by kernel_rfl
theorem rcs_h29_s (reach : List (List Bool)) (l : List Int) (s7 : Int) {r : List RV} (h : ∃ n, rcs_h29_t (rcs_C.k n) reach l s7 = some r) : rcs_C.Runs 29 (rcs_h29 reach l s7) r := by
  obtain ⟨n, h⟩ := h
  exact ⟨n + 1, (rcs_h29_eq _ reach l s7).trans h⟩
def andNot (l : List Bool) (i : Nat) (x : Bool) : Bool := x && !l.getD i false
/-- For each piece whether it can be covered and no tool of the list reaches it. -/
def opn (reach : List (List Bool)) (l : List Int) : List Bool := (List.range (npc reach)).map fun (p : Nat) => (reach.any fun r => r.getD p false) && !reachedF reach l (p : Int)
theorem opn_len (reach : List (List Bool)) (l : List Int) : (opn reach l).length = npc reach := by simp [opn]
theorem opn_nil (reach : List (List Bool)) : opn reach [] = covF reach := by simp [opn, covF, reachedF]
theorem reachedF_snoc (reach : List (List Bool)) (l : List Int) (t p : Int) : reachedF reach (l ++ [t]) p = (reachedF reach l p || (reach.getD t.toNat []).getD p.toNat false) := by simp [reachedF]
theorem opn_step (reach : List (List Bool)) (l : List Int) (t : Int) : (opn reach l).mapIdx (andNot (reach.getD t.toNat [])) = opn reach (l ++ [t]) := by
  unfold opn
  rw [mapIdx_range]
  apply List.map_congr_left
  intro p _
  rw [reachedF_snoc, toNat_nat, andNot, Bool.not_or, Bool.and_assoc]
def coversF (reach : List (List Bool)) (l : List Int) : Bool := inR reach l && !(opn reach l).any fun x => true == x
theorem ccs_inner (reach : List (List Bool)) (tl : List Int) (t : Int) (l a : List Bool) (r : List RV) (hl : l.length = a.length) (hb : l.length ≤ 1000) (hk : ccs_C.Runs 8 (ccs_h8 reach tl (IntKind.i64.wrap (t + 1)) (a.mapIdx (andNot l))) r) :
    ∀ d k, l.length - k = d → k ≤ l.length → ccs_C.Runs 30 (ccs_h30 reach tl t l (k : Int) (updTo (andNot l) k a)) r := by
  intro d
  induction d with
  | zero =>
    intro k hd hkl
    refine ccs_h30_s _ _ _ _ _ _ ?_
    unfold ccs_h30_t
    rw [ge_dec (by omega), updTo_all _ _ _ (by omega)]
    exact hk
  | succ d ih =>
    intro k hd hkl
    have h1 : k < l.length := by omega
    have h2 : k < a.length := by omega
    refine ccs_h30_s _ _ _ _ _ _ ?_
    unfold ccs_h30_t
    rw [lt_dec h1, getI_nat, getI_nat, toNat_nat, updTo_get, List.getElem?_eq_getElem h1, List.getElem?_eq_getElem h2, wrapS (by omega)]
    have hs := updTo_set (andNot l) a k h2
    have hg : l.getD k false = l[k] := by simp [List.getD, h1]
    have hn := ih (k + 1) (by omega) (by omega)
    rw [← hs] at hn
    unfold andNot at hn ⊢
    rw [hg] at hn
    cases hx : a[k] with
    | true => rw [hx] at hn; exact hn
    | false => rw [hx] at hn; exact hn
theorem inR_cons {reach : List (List Bool)} {t : Int} {l : List Int} : inR reach (t :: l) = (!decide (t < 0) && !decide (t ≥ (reach.length : Int)) && inR reach l) := by
  have h1 : decide (0 ≤ t) = !decide (t < 0) := by by_cases h : t < 0 <;> simp [h] <;> omega
  have h2 : decide (t < (reach.length : Int)) = !decide (t ≥ (reach.length : Int)) := by by_cases h : t < (reach.length : Int) <;> simp [h] <;> omega
  unfold inR
  rw [List.all_cons, h1, h2]
theorem ccs_loop (reach : List (List Bool)) (l : List Int) (h : small3 reach) (hl : l.length ≤ 1000000) : ∀ d k, l.length - k = d → k ≤ l.length → ccs_C.Runs 8 (ccs_h8 reach l (k : Int) (opn reach (l.take k))) [.d .bool (inR reach (l.drop k) && !(opn reach l).any fun x => true == x)] := by
  intro d
  induction d with
  | zero =>
    intro k hd hk
    refine ccs_h8_s _ _ _ _ ⟨0, ?_⟩
    have h2 := h.2.1
    unfold ccs_h8_t
    rw [ge_dec (by omega), decide_eq_true (by rw [opn_len]; omega), drop_end (by omega), List.take_of_length_le (by omega)]
    rfl
  | succ d ih =>
    intro k hd hk
    have hlt : k < l.length := by omega
    have h2 := h.2.1
    refine ccs_h8_s _ _ _ _ ?_
    unfold ccs_h8_t
    rw [lt_dec hlt, getI_nat, List.getElem?_eq_getElem hlt, drop_get hlt, inR_cons]
    dsimp only
    cases c1 : decide (l[k] < 0) with
    | true => exact ⟨0, rfl⟩
    | false =>
      cases c2 : decide (l[k] ≥ (reach.length : Int)) with
      | true => exact ⟨0, rfl⟩
      | false =>
        have i0 := of_decide_eq_false c1
        have i1 := of_decide_eq_false c2
        have hm := h.rect _ (getD_mem (xs := reach) (t := l[k]) [] (by omega) (by omega))
        have hn := ih (k + 1) (by omega) (by omega)
        rw [List.take_succ_eq_append_getElem hlt, ← opn_step, ← wrapS (show k + 1 ≤ 9223372036854775807 by omega)] at hn
        have := ccs_inner reach l (k : Int) (reach.getD l[k].toNat []) (opn reach (l.take k)) _ (by rw [hm, opn_len]) (by omega) hn _ 0 rfl (Nat.zero_le _)
        rw [updTo_zero] at this
        dsimp only
        rw [getI_in [] (by omega) (by omega)]
        exact this
theorem ccs_con (reach : List (List Bool)) (l : List Int) (h : small3 reach ∧ l.length ≤ 1000000) : Con Try.prog 52 [.d (.sl (.sl .bool)) reach, .d (.sl (.int .i64)) l] [.d .bool (coversF reach l)] := by
  refine Ctx.Res.con (C := ccs_C) (ctx_ok env4_ok) ?_ (fn := Try.f52) (by kernel_rfl) (by kernel_rfl)
  refine ccs_s _ _ ?_
  unfold ccs_t
  rw [decide_eq_true h.1]
  have := ccs_loop reach l h.1 h.2 _ 0 rfl (Nat.zero_le _)
  rw [List.take_zero, opn_nil] at this
  exact this
theorem all_mem {α : Type} {l : List α} {f g : α → Bool} (h : ∀ x ∈ l, f x = g x) : l.all f = l.all g := by
  induction l with
  | nil => rfl
  | cons a l ih => rw [List.all_cons, List.all_cons, h a (by simp), ih fun x hx => h x (by simp [hx])]
theorem opn_any (reach : List (List Bool)) (l : List Int) : (!(opn reach l).any fun x => true == x) = (List.range (npc reach)).all fun (p : Nat) => !((covF reach).getD p false) || reachedF reach l (p : Int) := by
  unfold opn
  rw [List.any_map, List.not_any_eq_all_not]
  apply all_mem
  intro p hp
  have : p < npc reach := List.mem_range.1 hp
  simp [covF, this]
theorem rcs_tail (reach : List (List Bool)) (l : List Int) (h : small3 reach) (hr : inR reach l = true) (hl : l.length ≤ 1000000) : ∀ d k, npc reach - k = d → k ≤ npc reach → rcs_C.Runs 29 (rcs_h29 reach l (k : Int)) [.d .bool (((List.range (npc reach)).drop k).all fun (p : Nat) => !((covF reach).getD p false) || reachedF reach l (p : Int))] := by
  have h2 := h.2.1
  intro d
  induction d with
  | zero =>
    intro k hd hk
    refine rcs_h29_s _ _ _ ⟨0, ?_⟩
    unfold rcs_h29_t
    rw [ge_dec (by rw [covF_len]; omega), drop_end (by simp; omega)]
    rfl
  | succ d ih =>
    intro k hd hk
    have hlt : k < (covF reach).length := by rw [covF_len]; omega
    have hg : (covF reach).getD k false = (covF reach)[k] := by simp [List.getD, hlt]
    have hn := ih (k + 1) (by omega) (by omega)
    refine rcs_h29_s _ _ _ ?_
    unfold rcs_h29_t
    rw [lt_dec hlt, getI_nat, toNat_nat, List.getElem?_eq_getElem hlt, drop_get (show k < (List.range (npc reach)).length by simp; omega), List.all_cons, wrapS (by omega), List.getElem_range, hg, decide_eq_true (show small3 reach ∧ inR reach l = true ∧ l.length ≤ 1000000 ∧ 0 ≤ (k : Int) ∧ (k : Int) < (npc reach : Int) from ⟨h, hr, hl, by omega, by omega⟩)]
    dsimp only
    cases hx : (covF reach)[k] with
    | false => exact hn
    | true =>
      cases hy : reachedF reach l (k : Int) with
      | true => exact hn
      | false => exact ⟨0, rfl⟩
theorem rcs_loop (reach : List (List Bool)) (l : List Int) (h : small3 reach) (hl : l.length ≤ 1000000) : ∀ d k, l.length - k = d → k ≤ l.length → inR reach (l.take k) = true → rcs_C.Runs 6 (rcs_h6 reach l (k : Int)) [.d .bool (inR reach (l.drop k) && !(opn reach l).any fun x => true == x)] := by
  intro d
  induction d with
  | zero =>
    intro k hd hk hin
    refine rcs_h6_s _ _ _ ?_
    unfold rcs_h6_t
    rw [List.take_of_length_le (by omega)] at hin
    rw [ge_dec (by omega), drop_end (by omega), decide_eq_true h, opn_any]
    exact rcs_tail reach l h hin hl _ 0 rfl (Nat.zero_le _)
  | succ d ih =>
    intro k hd hk hin
    have hlt : k < l.length := by omega
    refine rcs_h6_s _ _ _ ?_
    unfold rcs_h6_t
    rw [lt_dec hlt, getI_nat, List.getElem?_eq_getElem hlt, drop_get hlt, inR_cons, wrapS (by omega)]
    dsimp only
    cases c1 : decide (l[k] < 0) with
    | true => exact ⟨0, rfl⟩
    | false =>
      cases c2 : decide (l[k] ≥ (reach.length : Int)) with
      | true => exact ⟨0, rfl⟩
      | false =>
        refine ih (k + 1) (by omega) (by omega) ?_
        have i0 := of_decide_eq_false c1
        have i1 := of_decide_eq_false c2
        rw [List.take_succ_eq_append_getElem hlt]
        unfold inR at hin ⊢
        rw [List.all_append, hin]
        simp
        omega
theorem rcs_con (reach : List (List Bool)) (l : List Int) (h : small3 reach ∧ l.length ≤ 1000000) : Con Try.prog 48 [.d (.sl (.sl .bool)) reach, .d (.sl (.int .i64)) l] [.d .bool (coversF reach l)] := by
  refine Ctx.Res.con (C := rcs_C) (ctx_ok env4_ok) ?_ (fn := Try.f48) (by kernel_rfl) (by kernel_rfl)
  refine rcs_s _ _ ?_
  unfold rcs_t
  exact rcs_loop reach l h.1 h.2 _ 0 rfl (Nat.zero_le _) (by simp [inR])
end Go.Proofs.Ytfkidjkpgliffaa

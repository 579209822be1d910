/- DrillInside returns true for every position, three numbers and tool, and each argument reads behind the call as it read before: the given card, its one listed variable tied to the program's text. No condition. -/
import Derived.Test.YtpiabmjipgfjjaaDoorLawFrame
import Derived.Test.YtpiabmjipgfjjaaDoorDi10
namespace Go.Proofs.YtpiabmjipgfjjaaDoor.lawInside
open Go.ChangeShapes Go.WideShapes Go.ChangeAt Go.RowKit
theorem walk (x y n0 n1 n2 t0 t1 t2 t3 t4 t5 t6 t7 : Int) (W : World) (HN : Nms W) (ht : tvP (t0, t1, t2, t3, t4, t5, t6, t7)) (h0 : b64 n0) (h2 : b64 n2) :
    Calls Tryd.prog 7 #[.agg #[.int .i64 x, .int .i64 y], .agg #[.int .i64 n0, .int .i64 n1, .int .i64 n2], .agg #[.int .i64 t0, .int .i64 t1, .int .i64 t2, .int .i64 t3, .int .i64 t4, .int .i64 t5, .int .i64 t6, .int .i64 t7]] W fun e w' => e = .returned (.bool true) ∧ Below W.heap.size W w' := by
  refine (lawI_con (x, y) (n0, n1, n2) (t0, t1, t2, t3, t4, t5, t6, t7) h0 h2 ht (fun _ => True) W [_, _, _] HN ⟨⟨[.int .i64 x, .int .i64 y], ⟨[_], [_], rfl, rfl, rfl⟩, rfl⟩, ⟨[.int .i64 n0, .int .i64 n1, .int .i64 n2], ⟨[_], [_, _], rfl, rfl, [_], [_], rfl, rfl, rfl⟩, rfl⟩,
    ⟨[.int .i64 t0, .int .i64 t1, .int .i64 t2, .int .i64 t3, .int .i64 t4, .int .i64 t5, .int .i64 t6, .int .i64 t7], ⟨[_], [_, _, _, _, _, _, _], rfl, rfl, [_], [_, _, _, _, _, _], rfl, rfl, [_], [_, _, _, _, _], rfl, rfl, [_], [_, _, _, _], rfl, rfl, [_], [_, _, _], rfl, rfl, [_], [_, _], rfl, rfl, [_], [_], rfl, rfl, rfl⟩, rfl⟩, trivial⟩).mono ?_
  rintro e W' ⟨v, rfl, hb, hres⟩
  have hv : v = .bool true := rel_bool (G := []) (rel_of1 hres)
  subst hv
  exact ⟨rfl, hb⟩
theorem contract (H : Type) (enc : TypeId × Value → H) (W : World) (base : Nat) (args : Array Value) (ds gs : List (DataW H)) (before : List MemPlace)
    (hval : ∀ (j : Nat) t v, Tryd.f7.params[j]? = some t → args[j]? = some v → Value.okWide Tryd.prog W .any base t v)
    (hW : DataW.Whole enc Tryd.prog Tryd.f7.params.toList Rows.drillInsideSpec.vars false W args.toList ds gs before) (hL : laidMetH Tryd.prog laidL W) :
    Calls Tryd.prog 7 args W fun e W' => ∃ v, e = .returned v ∧ Rows.drillInsideSpec.post enc Tryd.prog Tryd.f7 false true false false W args v W' := by
  have hW' := hW
  obtain ⟨p, q, hA0, hV, rfl, hfz, hnd⟩ := hW
  have hA : DataW.TrodAll enc Tryd.prog W 0 (fun _ => true) true Tryd.f7.params.toList args.toList ds p := hA0
  rw [Tryd.params7] at hA hval
  obtain ⟨v0, vs0, d0, ds0, p0, q0, e0, rfl, rfl, h0, r0⟩ := trodAll_cons hA
  obtain ⟨v1, vs1, d1, ds1, p1, q1, e1, rfl, rfl, h1, r1⟩ := trodAll_cons r0
  obtain ⟨v2, vs2, d2, ds2, p2, q2, e2, rfl, rfl, h2, r2⟩ := trodAll_cons r1
  obtain ⟨en, rfl, rfl⟩ := trodAll_nil r2
  obtain rfl : args = #[v0, v1, v2] := by cases args; simp_all
  obtain ⟨rfl, rfl⟩ := trodVars_none hV
  obtain ⟨x, y, rfl, _, _⟩ := open_grid (hval 0 30 v0 rfl rfl) h0
  obtain ⟨n0, n1, n2, rfl, a0, a1, a2⟩ := open_arr3 (hval 1 31 v1 rfl rfl) h1
  obtain ⟨t0, t1, t2, t3, t4, t5, t6, t7, rfl, z0, z1, z2, z3, z4, z5, z6, z7⟩ := open_tool (hval 2 33 v2 rfl rfl) h2
  clear hA0
  have HN := nms_of_laid hL
  refine (walk x y n0 n1 n2 t0 t1 t2 t3 t4 t5 t6 t7 W HN ⟨z0, z1, z2, z3, z4, z5, z6, z7⟩ a0 a2).mono fun e W' ⟨he, hg⟩ => ?_
  subst he
  exact ⟨_, rfl, law_post hW' rfl (by kernel_rfl) ⟨rfl, rfl, rfl⟩ (by kernel_rfl) hg⟩
set_option maxRecDepth 100000 in
theorem lifted (os : Os) (started : os.Started) (H : Type) (enc : TypeId × Value → H) :
    ReturnsInHanded {} Tryd.checked os 7 .any (fun w args => (Rows.drillInsideSpec.pre enc Tryd.prog Tryd.f7 [] false w args ∧ laidMetH Tryd.prog laidL w) ∧ sizedMet enc Tryd.prog Tryd.f7 (OpenSpec.ofChange Rows.drillInsideSpec) false w args)
      (Rows.drillInsideSpec.post enc Tryd.prog Tryd.f7 false true false false) := by
  refine returnsInHanded_of_change_and (C := Tryd.checked) (X := fun w _ => laidMetH Tryd.prog laidL w) (fun _ _ _ hh h => h.of_heap hh) ownKnob_ started (by kernel_rfl) Tryd.func7
    (ChangeSpec.witness_shaped (enc := enc) (C := Tryd.checked) (os := os) (X := fun w _ => laidMetH Tryd.prog laidL w) false (World.doorLaid Tryd.prog 400 os) #[.agg #[.int .i64 0, .int .i64 0], .agg #[.int .i64 0, .int .i64 0, .int .i64 0], .agg #[.int .i64 0, .int .i64 0, .int .i64 0, .int .i64 0, .int .i64 0, .int .i64 0, .int .i64 0, .int .i64 0]] 8 rfl (World.shaped_of_RefB (by kernel_rfl) (by kernel_rfl)) (by kernel_rfl) (by kernel_rfl) (by kernel_rfl) (door_met os _)) ?_
  intro W base args ds gs before hval0 hW _ _ hL _
  exact contract H enc W base args ds gs before hval0 hW hL
theorem said : Rows.DrillInsideSaid :=
  OpenClaim.holds_of_wide 7 Tryd.f7 rfl rfl rfl rfl rfl rfl rfl ⟨rfl, rfl, rfl, rfl, rfl⟩ rfl rfl rfl rfl rfl (by kernel_rfl) Tryd.func7 (by kernel_rfl)
    (of_decide_eq_true (by kernel_rfl)) (by unfold Func.isWrapper; first | (rw [if_pos (by decide +kernel)]; kernel_rfl) | (rw [if_neg (by decide +kernel)]; exact ⟨rfl, rfl⟩))
    (fun os started H enc _ => lifted os started H enc)
theorem plain (f : FuncId) (fn : Func) (hf : Tryd.pinned.checked.prog.funcNamed "swarf/swarflaw35.DrillInside" = some f) (hfn : Tryd.pinned.checked.prog.funcs[f]? = some fn) :
    false = Tryd.pinned.checked.prog.looks [] ∧ ∀ (j : Nat) t, fn.params[j]? = some t → Tryd.pinned.checked.prog.wantsStandIn t = false := by
  obtain rfl : f = 7 := Option.some.inj ((show Tryd.prog.funcNamed "swarf/swarflaw35.DrillInside" = some 7 by kernel_rfl).symm.trans hf) |>.symm
  obtain rfl : fn = Tryd.f7 := (Option.some.inj (Tryd.func7.symm.trans hfn)).symm
  refine ⟨by kernel_rfl, fun j t ht => ?_⟩
  rw [Tryd.params7] at ht
  have hm : t ∈ [30, 31, 33] := by simpa using Array.mem_of_getElem? ht
  have hall : ([30, 31, 33].all fun t => Tryd.prog.wantsStandIn t == false) = true := by kernel_rfl
  exact beq_iff_eq.1 (List.all_eq_true.1 hall t hm)
theorem proved : Rows.DrillInsideCardSaid :=
  Claim7.holds_tied_plain_at .later [] _ _ _ _ said (fun _ h => by cases h) (by kernel_rfl) (fun _ h => by cases h) drillInside_row_tie rfl ⟨rfl, rfl⟩ (by kernel_rfl) rfl plain (by kernel_rfl)
end Go.Proofs.YtpiabmjipgfjjaaDoor.lawInside

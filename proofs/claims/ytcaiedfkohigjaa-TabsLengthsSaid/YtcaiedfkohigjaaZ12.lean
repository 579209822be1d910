/- A law's row: its last step; arguments opened. -/
import Derived.Test.YtcaiedfkohigjaaZ7
import Derived.Stop.Joined
import Derived.Test.YtcaiedfkohigjaaZ11
namespace Go.Proofs.Ytcaiedfkohigjaa
open Go.ChangeShapes Go.WideShapes Go.ChangeAt Go.WideMaps Go.WideElems Go.RowKit Go.Maps
section
variable {H : Type} {enc : TypeId × Value → H} {P : Program}
/-- The row's last step where the world has only grown. -/
theorem post_of_below {f : Func} {s : ChangeSpec} {apart fresh handsOn again : Bool} {W W' : World} {args : Array Value} {v : Value} {ds gs : List (DataW H)} {before pa pv : List MemPlace}
    (hW : DataW.Whole enc P f.params.toList s.vars apart W args.toList ds gs before)
    (hres : ∀ (b : Nat) (sp : Nat → Bool) (hd : Bool), DataW.TrodAll enc P W' b sp hd f.resultTypes.toList (v.resultList f.resultTypes.size) (s.fn H (ds ++ gs)).results [])
    (hargs : ∀ sp : Nat → Bool, (∀ p ∈ before, sp p.block = true) → DataW.TrodAll enc P W' 0 sp true f.params.toList args.toList (s.fn H (ds ++ gs)).args pa)
    (hvars : ∀ sp : Nat → Bool, (∀ p ∈ before, sp p.block = true) → DataW.TrodVars enc P W' sp s.vars (s.fn H (ds ++ gs)).vars pv)
    (hps : before = pa ++ pv) (hb : Below W.heap.size W W')
    (hok : ∀ (j : Nat) (t : TypeId) (r : Value), f.resultTypes[j]? = some t → (v.resultList f.resultTypes.size)[j]? = some r → Value.okWide P W' .any 0 t r) :
    s.post enc P f apart fresh handsOn again W args v W' := by
  have hlt : ∀ p ∈ before, p.block < W.heap.size := fun p hp => hW.lt p hp
  have hold : ∀ p ∈ before, (fun b => decide (b < W.heap.size)) p.block = true := fun p hp => by simpa using hlt p hp
  refine ⟨ds, gs, before, [], pa, pv, hW, hres _ _ _, hargs _ hold, hvars _ hold, World.keptBut_mono (fun p hp => ⟨hp, ?_⟩) (hb.frame (· ∈ before)), fun _ => ?_⟩
  · rw [hps, List.mem_append] at hp
    exact Or.inr hp
  · obtain ⟨_, _, _, _, _, hz, hn⟩ := hW
    refine ⟨hok, _, _, ([] ++ pa) ++ pv, ⟨[] ++ pa, pv, trodAll_append (hargs _ (fun _ _ => rfl)) (hres _ _ _), hvars _ (fun _ _ => rfl), rfl, ?_, ?_⟩, ?_⟩
    · intro b off hp
      have hin : MemPlace.cell b off ∈ before := by rw [hps]; simpa using hp
      rw [hb.frozen (hlt _ hin)]
      exact hz b off hin
    · intro ha
      have := hn ha
      rw [hps] at this
      simpa using this
    · intro p hp _
      rw [hps]
      simpa using hp
end
theorem laidOut_ : laidOutB Try.prog = true := by kernel_rfl
theorem trodAll_stays {H : Type} {enc : TypeId × Value → H} {P : Program} (hl : laidOutB P = true) {W W' : World} {sp : Nat → Bool} : ∀ (ts : List TypeId) (vs : List Value) (ds : List (DataW H)) (ps : List MemPlace),
    (ts.all fun t => P.readableRec t && Nat.ble (t + 1) P.types.size) = true → DataW.TrodAll enc P W 0 (fun _ => true) true ts vs ds ps → (∀ p ∈ ps, W.sameAt W' p) → (∀ p ∈ ps, sp p.block = true) → DataW.TrodAll enc P W' 0 sp true ts vs ds ps
  | [], vs, ds, ps, _, h, _, _ => by obtain ⟨rfl, rfl, rfl⟩ := trodAll_nil h; exact trodAll_mk0
  | t :: ts, vs, ds, ps, ht, h, hs, hp => by
    obtain ⟨v, vs', d, ds', p, q, rfl, rfl, rfl, h0, h1⟩ := trodAll_cons h
    simp only [List.all_cons, Bool.and_eq_true] at ht
    exact trodAll_cons_mk (Trod_stays hl ht.1.1 (Nat.le_of_ble_eq_true ht.1.2) h0 (fun x hx => hs x (List.mem_append_left _ hx)) (fun x hx => hp x (List.mem_append_left _ hx)))
      (trodAll_stays hl ts vs' ds' q ht.2 h1 (fun x hx => hs x (List.mem_append_right _ hx)) (fun x hx => hp x (List.mem_append_right _ hx)))
set_option maxRecDepth 100000 in
/-- A law that returned true and only grew the world meets its row's post. -/
theorem law_post {H : Type} {enc : TypeId × Value → H} {f : Func} {s : ChangeSpec} {apart fresh handsOn again : Bool} {W W' : World} {args : Array Value} {ds : List (DataW H)} {before : List MemPlace}
    (hW : DataW.Whole enc Try.prog f.params.toList s.vars apart W args.toList ds [] before) (hv : s.vars = []) (hr : f.resultTypes = #[4]) (hfn : (s.fn H (ds ++ [])).results = [.lit (.bool true)] ∧ (s.fn H (ds ++ [])).args = ds ∧ (s.fn H (ds ++ [])).vars = [])
    (hp : (f.params.toList.all fun t => Try.prog.readableRec t && Nat.ble (t + 1) Try.prog.types.size) = true) (hb : Below W.heap.size W W') : s.post enc Try.prog f apart fresh handsOn again W args (.bool true) W' := by
  have hW' := hW
  obtain ⟨p, q, hA, hV, rfl, hfz, hnd⟩ := hW
  have hq : q = [] := by
    rw [hv] at hV
    exact (trodVars_none hV).2
  subst hq
  have hlt : ∀ x ∈ p, x.block < W.heap.size := fun x hx => hW'.lt x (by simpa using hx)
  refine post_of_below (pa := p) (pv := []) hW' ?_ ?_ ?_ rfl hb ?_
  · intro b sp hd
    rw [hr, hfn.1]
    exact trodAll_mk1 (shut_bool Try.underlying4 _)
  · intro sp hsp
    rw [hfn.2.1]
    exact trodAll_stays laidOut_ _ _ _ _ hp hA (fun x hx => hb.same (hlt x hx)) (fun x hx => hsp x (by simpa using hx))
  · intro sp _
    rw [hv, hfn.2.2]
    rfl
  · exact ok_one hr rfl (okWide_bool_mk (P := Try.prog) Try.underlying4 true)
theorem okWide_arr {P : Program} {w : World} {r : Reach} {base : Nat} {t e : TypeId} {n : Nat} {v : Value} (ht : P.underlying t = some (.array n e)) (h : Value.okWide P w r base t v) : ∃ cs, v = .agg cs ∧ cs.size = P.cellsOf t := by
  simp only [Value.okWide, ht] at h
  obtain ⟨cs, h1, h2, _⟩ := h
  exact ⟨cs, h1, h2⟩
theorem okWide_str {P : Program} {w : World} {r : Reach} {base : Nat} {t : TypeId} {v : Value} (ht : P.underlying t = some .string) (h : Value.okWide P w r base t v) : ∃ s, v = .string s := by
  simp only [Value.okWide, ht, Cell.okWide] at h
  cases v <;> simp_all [Cell.ok]
/-- An argument is a datum. -/
theorem open_arg {H : Type} {enc : TypeId × Value → H} {P : Program} {w : World} {r : Reach} {b0 base : Nat} {spare : Nat → Bool} {held : Bool} {v : Value} {d : DataW H} {p : List MemPlace} {t : TypeId} (n : Nat) (ty : Ty) (hrep : rep P n t ty = true) (hv : Value.okWide P w r b0 t v) (h : DataW.Trod enc P w base spare held t v d p) :
    ∃ y : ty.D, Rel1 [] (fun _ => True) w (.d ty y) v ∧ ty.ok y := by
  obtain ⟨fuel, hf⟩ := h
  have fin : v.cells.toList.length = ty.n → v = mkV ty v.cells.toList → ∃ y : ty.D, Rel1 [] (fun _ => True) w (.d ty y) v ∧ ty.ok y := fun hl hm => by
    obtain ⟨y, h1, h2⟩ := (rep_all ty).1 n t hrep fuel _ _ hl hf
    exact ⟨y, ⟨_, h1, hm⟩, h2⟩
  cases n with
  | zero => simp [rep] at hrep
  | succ n =>
    have hrep' := hrep
    unfold rep at hrep'
    split at hrep' <;> try (cases hrep'; done)
    · rename_i hu; obtain ⟨m, rfl⟩ := okWide_int hu hv; exact fin rfl rfl
    · rename_i hu; obtain ⟨m, rfl⟩ := okWide_bool hu hv; exact fin rfl rfl
    · rename_i hu; obtain ⟨m, rfl⟩ := okWide_str hu hv; exact fin rfl rfl
    · rename_i hu; obtain ⟨q, m, c, rfl⟩ := okWide_slice hu hv; exact fin rfl rfl
    · rename_i hu
      obtain ⟨cs, rfl, hsz⟩ := okWide_struct hu hv
      simp only [Bool.and_eq_true] at hrep'
      exact fin (by simp only [Value.cells, Array.length_toList, hsz]; exact Nat.eq_of_beq_eq_true hrep'.2) (by simp [mkV, Ty.isSt, Value.cells])
    · rename_i hu
      obtain ⟨cs, rfl, hsz⟩ := okWide_arr hu hv
      simp only [Bool.and_eq_true] at hrep'
      exact fin (by simp only [Value.cells, Array.length_toList, hsz]; exact Nat.eq_of_beq_eq_true hrep'.2) (by simp [mkV, Ty.isSt, Value.cells])
end Go.Proofs.Ytcaiedfkohigjaa
/- TabsLengths returns true for every path, and the argument reads behind the call as it read before. No condition. -/
namespace Go.Proofs.Ytcaiedfkohigjaa.lawTabsLengths
open Go.ChangeShapes Go.WideShapes Go.ChangeAt Go.RowKit
set_option maxRecDepth 100000 in
theorem contract (H : Type) (enc : TypeId × Value → H) (W : World) (base : Nat) (args : Array Value) (ds gs : List (DataW H)) (before : List MemPlace)
    (hval : ∀ (j : Nat) t v, Try.f3.params[j]? = some t → args[j]? = some v → Value.okWide Try.prog W .any base t v)
    (hW : DataW.Whole enc Try.prog Try.f3.params.toList Rows.tabsLengthsSpec.vars false W args.toList ds gs before) :
    Calls Try.prog 3 args W fun e W' => ∃ v, e = .returned v ∧ Rows.tabsLengthsSpec.post enc Try.prog Try.f3 false true false false W args v W' := by
  have hW' := hW
  obtain ⟨p, q, hA0, hV, rfl, hfz, hnd⟩ := hW
  have hA : DataW.TrodAll enc Try.prog W 0 (fun _ => true) true Try.f3.params.toList args.toList ds p := hA0
  rw [Try.params3] at hA hval
  obtain ⟨v0, vs0, d0, ds0, p0, q0, e0, rfl, rfl, h0, r0⟩ := trodAll_cons hA
  obtain ⟨en, rfl, rfl⟩ := trodAll_nil r0
  obtain rfl : args = #[v0] := by cases args; simp_all
  obtain ⟨rfl, rfl⟩ := trodVars_none hV
  obtain ⟨y0, s0, k0⟩ := open_arg 12 (.sl tG) (by kernel_rfl) (hval 0 22 v0 rfl rfl) h0
  clear hA0
  refine (lLe_con y0 k0 (fun _ => True) W [v0] inv_triv ⟨s0, trivial⟩).mono ?_
  rintro e W' ⟨v, rfl, hb, hres⟩
  have hv : v = .bool true := rel_bool (G := []) (rel_of1 hres)
  subst hv
  exact ⟨_, rfl, law_post hW' rfl (by kernel_rfl) ⟨rfl, rfl, rfl⟩ (by kernel_rfl) hb⟩
set_option maxRecDepth 100000 in
theorem lifted (os : Os) (started : os.Started) (H : Type) (enc : TypeId × Value → H) :
    ReturnsInHanded {} Try.checked os 3 .any (Rows.tabsLengthsSpec.pre6 enc Try.prog Try.f3 Rows.tabsLengthsRow.domain false) (Rows.tabsLengthsSpec.post enc Try.prog Try.f3 false true false false) := by
  refine returnsInHanded_of_change (C := Try.checked) ownKnob_ started (by kernel_rfl) Try.func3
    (ChangeSpec.witness6 (enc := enc) (C := Try.checked) false ⟨#[], #[.slice none 0 0], []⟩ 8 (by kernel_rfl) (by kernel_rfl) (by kernel_rfl) (by kernel_rfl)) ?_
  intro W base args ds gs before hval hW _ _
  exact contract H enc W base args ds gs before hval hW
theorem proved : Rows.TabsLengthsSaid :=
  OpenClaim.holds_of_wide 3 Try.f3 rfl rfl rfl rfl rfl rfl rfl ⟨rfl, rfl, rfl, rfl, rfl⟩ rfl rfl rfl rfl rfl (by kernel_rfl) Try.func3 (by kernel_rfl)
    (of_decide_eq_true (by kernel_rfl)) (by unfold Func.isWrapper; first | (rw [if_pos (by decide +kernel)]; kernel_rfl) | (rw [if_neg (by decide +kernel)]; exact ⟨rfl, rfl⟩))
    (fun os started H enc _ => lifted os started H enc)
end Go.Proofs.Ytcaiedfkohigjaa.lawTabsLengths

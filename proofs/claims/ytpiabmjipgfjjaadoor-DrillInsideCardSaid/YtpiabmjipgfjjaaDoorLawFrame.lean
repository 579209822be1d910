/- The frame of a law's row: what is read again behind the call; the arguments' forms. -/
import Derived.Test.YtpiabmjipgfjjaaDoorRowKit
namespace Go.Proofs.YtpiabmjipgfjjaaDoor
open Go.ChangeShapes Go.WideShapes Go.ChangeAt Go.WideMaps Go.WideElems Go.RowKit

theorem laidOut_ : laidOutB Tryd.prog = true := by kernel_rfl
theorem trodAll_stays {H : Type} {enc : TypeId × Value → H} {P : Program} (hl : laidOutB P = true) {W W' : World} {sp : Nat → Bool} : ∀ (ts : List TypeId) (vs : List Value) (ds : List (DataW H)) (ps : List MemPlace),
    (ts.all fun t => P.readableRec t && Nat.ble (t + 1) P.types.size) = true → DataW.TrodAll enc P W 0 (fun _ => true) true ts vs ds ps → (∀ p ∈ ps, W.sameAt W' p) → (∀ p ∈ ps, sp p.block = true) → DataW.TrodAll enc P W' 0 sp true ts vs ds ps
  | [], vs, ds, ps, _, h, _, _ => by obtain ⟨rfl, rfl, rfl⟩ := trodAll_nil h; exact trodAll_mk0
  | t :: ts, vs, ds, ps, ht, h, hs, hp => by
    obtain ⟨v, vs', d, ds', p, q, rfl, rfl, rfl, h0, h1⟩ := trodAll_cons h
    simp only [List.all_cons, Bool.and_eq_true] at ht
    exact trodAll_cons_mk (Trod_stays hl ht.1.1 (Nat.le_of_ble_eq_true ht.1.2) h0 (fun x hx => hs x (List.mem_append_left _ hx)) (fun x hx => hp x (List.mem_append_left _ hx)))
      (trodAll_stays hl ts vs' ds' q ht.2 h1 (fun x hx => hs x (List.mem_append_right _ hx)) (fun x hx => hp x (List.mem_append_right _ hx)))
/-- A law that returned true and only grew the world meets its row's post. -/
theorem law_post {H : Type} {enc : TypeId × Value → H} {f : Func} {s : ChangeSpec} {apart fresh handsOn again : Bool} {W W' : World} {args : Array Value} {ds : List (DataW H)} {before : List MemPlace}
    (hW : DataW.Whole enc Tryd.prog f.params.toList s.vars apart W args.toList ds [] before) (hv : s.vars = []) (hr : f.resultTypes = #[4]) (hfn : (s.fn H (ds ++ [])).results = [.lit (.bool true)] ∧ (s.fn H (ds ++ [])).args = ds ∧ (s.fn H (ds ++ [])).vars = [])
    (hp : (f.params.toList.all fun t => Tryd.prog.readableRec t && Nat.ble (t + 1) Tryd.prog.types.size) = true) (hb : Below W.heap.size W W') : s.post enc Tryd.prog f apart fresh handsOn again W args (.bool true) W' := by
  have hW' := hW
  obtain ⟨p, q, hA, hV, rfl, hfz, hnd⟩ := hW
  have hq : q = [] := by
    rw [hv] at hV
    exact (trodVars_none hV).2
  subst hq
  have hlt : ∀ x ∈ p, x.block < W.heap.size := fun x hx => hW'.lt x (by simpa using hx)
  refine post_of_below (pa := p) (pv := []) hW' ?_ ?_ ?_ rfl hb ?_
  · intro b sp hd
    rw [hr, hfn.1]
    exact trodAll_mk1 (shut_bool Tryd.underlying4 _)
  · intro sp hsp
    rw [hfn.2.1]
    exact trodAll_stays laidOut_ _ _ _ _ hp hA (fun x hx => hb.same (hlt x hx)) (fun x hx => hsp x (by simpa using hx))
  · intro sp _
    rw [hv, hfn.2.2]
    rfl
  · exact ok_one hr rfl (okWide_bool_mk Tryd.underlying4 _)
theorem open_grid {H : Type} {enc : TypeId × Value → H} {w : World} {r : Reach} {b0 base : Nat} {spare : Nat → Bool} {held : Bool} {v : Value} {d : DataW H} {p : List MemPlace} (hv : Value.okWide Tryd.prog w r b0 30 v) (h : DataW.Trod enc Tryd.prog w base spare held 30 v d p) :
    ∃ n0 n1 : Int, v = .agg #[.int .i64 n0, .int .i64 n1] ∧ (-9223372036854775808 ≤ n0 ∧ n0 ≤ 9223372036854775807) ∧ (-9223372036854775808 ≤ n1 ∧ n1 ≤ 9223372036854775807) := by
  have hC : Tryd.prog.cellsOf 30 = 2 := by kernel_rfl
  obtain ⟨cs, rfl, hsz⟩ := okWide_struct Tryd.underlying30 hv
  obtain ⟨l⟩ := cs
  match l, hsz.trans hC with
  | [c0, c1], _ =>
    obtain ⟨fuel, hf⟩ := h
    obtain ⟨xs, n, _, hx, _, hlen, hg⟩ := DataW.trod_struct Tryd.underlying30 hf
    have g0 := hg 0 _ rfl
    have e0 : ∃ y, xs[0]? = some y := ⟨xs[0]'(by rw [hlen]; exact Nat.le_of_ble_eq_true rfl), List.getElem?_eq_getElem _⟩
    obtain ⟨y0, hy0⟩ := e0
    rw [hy0] at g0
    have k0 : Tryd.prog.cellsOf 2 = 1 := by kernel_rfl
    obtain ⟨m0, q0, _, z0⟩ := DataW.trod_int (t := 2) Tryd.underlying2 (by simpa [Value.cells, k0] using g0)
    simp at q0
    have g1 := hg 1 _ rfl
    have e1 : ∃ y, xs[1]? = some y := ⟨xs[1]'(by rw [hlen]; exact Nat.le_of_ble_eq_true rfl), List.getElem?_eq_getElem _⟩
    obtain ⟨y1, hy1⟩ := e1
    rw [hy1] at g1
    have k1 : Tryd.prog.cellsOf 2 = 1 := by kernel_rfl
    obtain ⟨m1, q1, _, z1⟩ := DataW.trod_int (t := 2) Tryd.underlying2 (by simpa [Value.cells, k1] using g1)
    simp at q1
    subst q0 q1
    exact ⟨_, _, rfl, bounds_i64 z0, bounds_i64 z1⟩
theorem open_tool {H : Type} {enc : TypeId × Value → H} {w : World} {r : Reach} {b0 base : Nat} {spare : Nat → Bool} {held : Bool} {v : Value} {d : DataW H} {p : List MemPlace} (hv : Value.okWide Tryd.prog w r b0 33 v) (h : DataW.Trod enc Tryd.prog w base spare held 33 v d p) :
    ∃ n0 n1 n2 n3 n4 n5 n6 n7 : Int, v = .agg #[.int .i64 n0, .int .i64 n1, .int .i64 n2, .int .i64 n3, .int .i64 n4, .int .i64 n5, .int .i64 n6, .int .i64 n7] ∧ (-9223372036854775808 ≤ n0 ∧ n0 ≤ 9223372036854775807) ∧ (-9223372036854775808 ≤ n1 ∧ n1 ≤ 9223372036854775807) ∧ (-9223372036854775808 ≤ n2 ∧ n2 ≤ 9223372036854775807) ∧ (-9223372036854775808 ≤ n3 ∧ n3 ≤ 9223372036854775807) ∧ (-9223372036854775808 ≤ n4 ∧ n4 ≤ 9223372036854775807) ∧ (-9223372036854775808 ≤ n5 ∧ n5 ≤ 9223372036854775807) ∧ (-9223372036854775808 ≤ n6 ∧ n6 ≤ 9223372036854775807) ∧ (-9223372036854775808 ≤ n7 ∧ n7 ≤ 9223372036854775807) := by
  have hC : Tryd.prog.cellsOf 33 = 8 := by kernel_rfl
  obtain ⟨cs, rfl, hsz⟩ := okWide_struct Tryd.underlying33 hv
  obtain ⟨l⟩ := cs
  match l, hsz.trans hC with
  | [c0, c1, c2, c3, c4, c5, c6, c7], _ =>
    obtain ⟨fuel, hf⟩ := h
    obtain ⟨xs, n, _, hx, _, hlen, hg⟩ := DataW.trod_struct Tryd.underlying33 hf
    have g0 := hg 0 _ rfl
    have e0 : ∃ y, xs[0]? = some y := ⟨xs[0]'(by rw [hlen]; exact Nat.le_of_ble_eq_true rfl), List.getElem?_eq_getElem _⟩
    obtain ⟨y0, hy0⟩ := e0
    rw [hy0] at g0
    have k0 : Tryd.prog.cellsOf 3 = 1 := by kernel_rfl
    obtain ⟨m0, q0, _, z0⟩ := DataW.trod_int (t := 3) Tryd.underlying3 (by simpa [Value.cells, k0] using g0)
    simp at q0
    have g1 := hg 1 _ rfl
    have e1 : ∃ y, xs[1]? = some y := ⟨xs[1]'(by rw [hlen]; exact Nat.le_of_ble_eq_true rfl), List.getElem?_eq_getElem _⟩
    obtain ⟨y1, hy1⟩ := e1
    rw [hy1] at g1
    have k1 : Tryd.prog.cellsOf 3 = 1 := by kernel_rfl
    obtain ⟨m1, q1, _, z1⟩ := DataW.trod_int (t := 3) Tryd.underlying3 (by simpa [Value.cells, k1] using g1)
    simp at q1
    have g2 := hg 2 _ rfl
    have e2 : ∃ y, xs[2]? = some y := ⟨xs[2]'(by rw [hlen]; exact Nat.le_of_ble_eq_true rfl), List.getElem?_eq_getElem _⟩
    obtain ⟨y2, hy2⟩ := e2
    rw [hy2] at g2
    have k2 : Tryd.prog.cellsOf 2 = 1 := by kernel_rfl
    obtain ⟨m2, q2, _, z2⟩ := DataW.trod_int (t := 2) Tryd.underlying2 (by simpa [Value.cells, k2] using g2)
    simp at q2
    have g3 := hg 3 _ rfl
    have e3 : ∃ y, xs[3]? = some y := ⟨xs[3]'(by rw [hlen]; exact Nat.le_of_ble_eq_true rfl), List.getElem?_eq_getElem _⟩
    obtain ⟨y3, hy3⟩ := e3
    rw [hy3] at g3
    have k3 : Tryd.prog.cellsOf 2 = 1 := by kernel_rfl
    obtain ⟨m3, q3, _, z3⟩ := DataW.trod_int (t := 2) Tryd.underlying2 (by simpa [Value.cells, k3] using g3)
    simp at q3
    have g4 := hg 4 _ rfl
    have e4 : ∃ y, xs[4]? = some y := ⟨xs[4]'(by rw [hlen]; exact Nat.le_of_ble_eq_true rfl), List.getElem?_eq_getElem _⟩
    obtain ⟨y4, hy4⟩ := e4
    rw [hy4] at g4
    have k4 : Tryd.prog.cellsOf 2 = 1 := by kernel_rfl
    obtain ⟨m4, q4, _, z4⟩ := DataW.trod_int (t := 2) Tryd.underlying2 (by simpa [Value.cells, k4] using g4)
    simp at q4
    have g5 := hg 5 _ rfl
    have e5 : ∃ y, xs[5]? = some y := ⟨xs[5]'(by rw [hlen]; exact Nat.le_of_ble_eq_true rfl), List.getElem?_eq_getElem _⟩
    obtain ⟨y5, hy5⟩ := e5
    rw [hy5] at g5
    have k5 : Tryd.prog.cellsOf 2 = 1 := by kernel_rfl
    obtain ⟨m5, q5, _, z5⟩ := DataW.trod_int (t := 2) Tryd.underlying2 (by simpa [Value.cells, k5] using g5)
    simp at q5
    have g6 := hg 6 _ rfl
    have e6 : ∃ y, xs[6]? = some y := ⟨xs[6]'(by rw [hlen]; exact Nat.le_of_ble_eq_true rfl), List.getElem?_eq_getElem _⟩
    obtain ⟨y6, hy6⟩ := e6
    rw [hy6] at g6
    have k6 : Tryd.prog.cellsOf 2 = 1 := by kernel_rfl
    obtain ⟨m6, q6, _, z6⟩ := DataW.trod_int (t := 2) Tryd.underlying2 (by simpa [Value.cells, k6] using g6)
    simp at q6
    have g7 := hg 7 _ rfl
    have e7 : ∃ y, xs[7]? = some y := ⟨xs[7]'(by rw [hlen]; exact Nat.le_of_ble_eq_true rfl), List.getElem?_eq_getElem _⟩
    obtain ⟨y7, hy7⟩ := e7
    rw [hy7] at g7
    have k7 : Tryd.prog.cellsOf 2 = 1 := by kernel_rfl
    obtain ⟨m7, q7, _, z7⟩ := DataW.trod_int (t := 2) Tryd.underlying2 (by simpa [Value.cells, k7] using g7)
    simp at q7
    subst q0 q1 q2 q3 q4 q5 q6 q7
    exact ⟨_, _, _, _, _, _, _, _, rfl, bounds_i64 z0, bounds_i64 z1, bounds_i64 z2, bounds_i64 z3, bounds_i64 z4, bounds_i64 z5, bounds_i64 z6, bounds_i64 z7⟩
theorem okWide_arr {P : Program} {w : World} {r : Reach} {base : Nat} {t e : TypeId} {n : Nat} {v : Value} (ht : P.underlying t = some (.array n e)) (h : Value.okWide P w r base t v) : ∃ cs, v = .agg cs ∧ cs.size = P.cellsOf t := by
  simp only [Value.okWide, ht] at h
  obtain ⟨cs, h1, h2, _⟩ := h
  exact ⟨cs, h1, h2⟩
theorem open_arr3 {H : Type} {enc : TypeId × Value → H} {w : World} {r : Reach} {b0 base : Nat} {spare : Nat → Bool} {held : Bool} {v : Value} {d : DataW H} {p : List MemPlace} (hv : Value.okWide Tryd.prog w r b0 31 v) (h : DataW.Trod enc Tryd.prog w base spare held 31 v d p) :
    ∃ n0 n1 n2 : Int, v = .agg #[.int .i64 n0, .int .i64 n1, .int .i64 n2] ∧ (-9223372036854775808 ≤ n0 ∧ n0 ≤ 9223372036854775807) ∧ (-9223372036854775808 ≤ n1 ∧ n1 ≤ 9223372036854775807) ∧ (-9223372036854775808 ≤ n2 ∧ n2 ≤ 9223372036854775807) := by
  have hC : Tryd.prog.cellsOf 31 = 3 := by kernel_rfl
  have k1 : Tryd.prog.cellsOf 2 = 1 := by kernel_rfl
  obtain ⟨cs, rfl, hsz⟩ := okWide_arr Tryd.underlying31 hv
  obtain ⟨l⟩ := cs
  match l, hsz.trans hC with
  | [c0, c1, c2], _ =>
    obtain ⟨fuel, hf⟩ := h
    obtain ⟨xs, n, _, hx, _, hlen, hg⟩ := DataW.trod_array Tryd.underlying31 hf
    have g0 := hg 0 (by decide)
    obtain ⟨y0, hy0⟩ : ∃ y, xs[0]? = some y := ⟨xs[0]'(by rw [hlen]; decide), List.getElem?_eq_getElem _⟩
    rw [hy0] at g0
    obtain ⟨m0, q0, _, z0⟩ := DataW.trod_int (t := 2) Tryd.underlying2 (by simpa [Value.cells, k1] using g0)
    simp at q0
    have g1 := hg 1 (by decide)
    obtain ⟨y1, hy1⟩ : ∃ y, xs[1]? = some y := ⟨xs[1]'(by rw [hlen]; decide), List.getElem?_eq_getElem _⟩
    rw [hy1] at g1
    obtain ⟨m1, q1, _, z1⟩ := DataW.trod_int (t := 2) Tryd.underlying2 (by simpa [Value.cells, k1] using g1)
    simp at q1
    have g2 := hg 2 (by decide)
    obtain ⟨y2, hy2⟩ : ∃ y, xs[2]? = some y := ⟨xs[2]'(by rw [hlen]; decide), List.getElem?_eq_getElem _⟩
    rw [hy2] at g2
    obtain ⟨m2, q2, _, z2⟩ := DataW.trod_int (t := 2) Tryd.underlying2 (by simpa [Value.cells, k1] using g2)
    simp at q2
    subst q0 q1 q2
    exact ⟨_, _, _, rfl, bounds_i64 z0, bounds_i64 z1, bounds_i64 z2⟩
end Go.Proofs.YtpiabmjipgfjjaaDoor

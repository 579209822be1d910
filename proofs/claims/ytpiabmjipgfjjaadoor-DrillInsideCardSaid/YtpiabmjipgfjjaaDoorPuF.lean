/- .. loads, addresses, parts, slices. -/
import Derived.Test.YtpiabmjipgfjjaaDoorPuE
namespace Go.Proofs.YtpiabmjipgfjjaaDoor
open Go.RowKit

theorem run_loadAt_leaf {P : Program} (w : World) (b o : Nat) (ty : TypeId) (v : Value) (d : TypeDesc) (hc : w.cell? ⟨b, o, none⟩ = some v) (hu : P.underlying ty = some d) (hd : d.isRow = false) :
    (Instr.loadAt ty (.pointer (some ⟨b, o, none⟩))).run P w = .ok v w := by
  have hagg : (isAgg ty).run P w = .ok false w := by
    unfold isAgg
    rw [Sem.run_bind, run_underlying hu w]
    cases d <;> simp_all
  have hl : (load ⟨b, o, none⟩).run P w = .ok v w := by simp only [load, Sem.run, hc]
  simp only [Instr.loadAt, Instr.sureAddr, loadVar, Sem.run_bind, Sem.run_pure, Result.andThen_ok, hagg, Bool.false_eq_true, if_false]
  exact hl
/-- A variable's load: a struct's cells, or the one cell. -/
theorem run_loadAt_ty {P : Program} {t : Nat} {i : TI} (hc : chk P t i = true) (w : World) (b o : Nat) (cs : List Value) (hl : cs.length = i.ty.n) (hn : i.ty.isSt = false → i.ty.n = 1) (hcs : cellsAt w b o cs) :
    (Instr.loadAt t (.pointer (some ⟨b, o, none⟩))).run P w = .ok (mkV i.ty cs) w := by
  obtain ⟨d, h1, h2⟩ := chk_st hc
  have hsz := chk_size hc
  cases hst : i.ty.isSt with
  | true =>
    rw [hst] at h2
    rw [run_loadAt_mid w b o t cs d hcs h1 h2 (by rw [hsz, hl])]
    simp [mkV, hst]
  | false =>
    rw [hst] at h2
    have hl1 := hn hst
    match cs, hl with
    | [v], _ => rw [run_loadAt_leaf w b o t v d (by simpa using hcs 0 v rfl) h1 h2]; simp [mkV, hst]
    | [], hl => rw [hl1] at hl; simp at hl
    | _ :: _ :: _, hl => rw [hl1] at hl; simp at hl
theorem run_fieldAt {P : Program} {t f : Nat} {i : TI} {p : Nat × Nat} (hc : chk P t i = true) (hp : i.pl[f]? = some p) (w : World) (b o : Nat) :
    (Instr.fieldAt t (.pointer (some ⟨b, o, none⟩)) f).run P w = .ok (.pointer (some ⟨b, o + p.1, none⟩)) w := by
  obtain ⟨fs, fl, inf, h1, h2, h3, h4, h5⟩ := chk_field hc hp
  simp [Instr.fieldAt, run_underlying h1, h2, Instr.sureAddr, fieldPlace, sizeOf, typeInfo, h4, h5, add_plain, h3]

theorem flatten_get {sz : Nat} : ∀ {css : List (List Value)} {n i : Nat} {l : List Value} {v : Value}, (∀ l ∈ css, l.length = sz) → css[n]? = some l → l[i]? = some v → css.flatten[n * sz + i]? = some v
  | [], _, _, _, _, _, h, _ => by simp at h
  | c :: css, 0, i, l, v, hl, h, hv => by
    simp at h; subst h
    rw [List.flatten_cons, Nat.zero_mul, Nat.zero_add, List.getElem?_append_left (List.getElem?_eq_some_iff.1 hv).1]
    exact hv
  | c :: css, n + 1, i, l, v, hl, h, hv => by
    have hc : c.length = sz := hl c (by simp)
    rw [List.flatten_cons, List.getElem?_append_right (by rw [hc, Nat.succ_mul]; omega), hc, show (n + 1) * sz + i - sz = n * sz + i by rw [Nat.succ_mul]; omega]
    exact flatten_get (fun l hm => hl l (by simp [hm])) (by simpa using h) hv
theorem rds_len {A : Nat → Prop} {w : World} {e : Ty} : ∀ {css : List (List Value)} {xs : List e.D}, all2 (fun l y => e.rd A w l y) css xs → ∀ l ∈ css, l.length = e.n
  | [], [], _, l, h => by simp at h
  | c :: css, x :: xs, ⟨h1, h2⟩, l, h => by
    rcases List.mem_cons.1 h with rfl | h
    · exact Ty.rd_len h1
    · exact rds_len h2 l h
theorem flatten_len {sz : Nat} : ∀ {css : List (List Value)}, (∀ l ∈ css, l.length = sz) → css.flatten.length = css.length * sz
  | [], _ => by simp
  | c :: css, h => by rw [List.flatten_cons, List.length_append, flatten_len (fun l hm => h l (by simp [hm])), h c (by simp), List.length_cons, Nat.succ_mul]; omega
theorem flatten_take {sz : Nat} : ∀ {css : List (List Value)} (n : Nat), (∀ l ∈ css, l.length = sz) → (css.take n).flatten = css.flatten.take (n * sz)
  | [], n, _ => by simp
  | c :: css, 0, _ => by simp
  | c :: css, n + 1, h => by
    have hc := h c (by simp)
    rw [List.take_succ_cons, List.flatten_cons, flatten_take n (fun l hm => h l (by simp [hm])), List.flatten_cons, List.take_append, hc, List.take_of_length_le (l := c) (by rw [hc, Nat.succ_mul]; omega), show (n + 1) * sz - sz = n * sz by rw [Nat.succ_mul]; omega]
theorem flatten_drop {sz : Nat} : ∀ {css : List (List Value)} (n : Nat), (∀ l ∈ css, l.length = sz) → (css.drop n).flatten = css.flatten.drop (n * sz)
  | [], n, _ => by simp
  | c :: css, 0, _ => by simp
  | c :: css, n + 1, h => by
    have hc := h c (by simp)
    rw [List.drop_succ_cons, List.flatten_cons, flatten_drop n (fun l hm => h l (by simp [hm])), List.drop_append, hc, (List.drop_eq_nil_of_le (by rw [hc, Nat.succ_mul]; omega) : c.drop ((n + 1) * sz) = []), List.nil_append, show (n + 1) * sz - sz = n * sz by rw [Nat.succ_mul]; omega]

section
variable {Z : Nat → Prop} {w0 : World} {n : Nat} {L : SL} {H : List Item} {G : List Value} {w : World} {a : Act} {P : Program} {T : TT}
theorem Agr.pure {rw : Bool} {w' : World} (ha : Agr rw H G w w') {b : Nat} (hb : b < w.heap.size) (hA : Av Z H G b) : w'.heap[b]? = w.heap[b]? :=
  ha.2 b hb (.inr fun ⟨j, et, e, xs, g, h1, h2, h3⟩ => hA.2 j _ g h1 rfl h2 h3)
theorem Agr.box {rw : Bool} {w' : World} (ha : Agr rw H G w w') (hr : SR Z w0 H G w) {j b : Nat} {t : TypeId} {cs : List SV} {g : Value} (hj : H[j]? = some (.box t cs)) (hg : G[j]? = some g) (hb : blkOf g = some b) : w'.heap[b]? = w.heap[b]? :=
  ha.2 b ((hr.items j _ g hj hg).blk rfl hb).2 (.inr fun ⟨i, et, e, xs, h, h1, h2, h3⟩ => by
    by_cases hij : i = j
    · subst hij; rw [hj] at h1; cases h1
    · exact hr.disj i j _ _ h g b hij h1 hj rfl rfl h2 hg h3 hb)
theorem cellsAt_of {w' : World} {b o : Nat} {cs : List Value} (h : w'.heap[b]? = w.heap[b]?) (hc : cellsAt w b o cs) : cellsAt w' b o cs := fun i v hv => (World.cell?_of_block (a := ⟨b, o + i, none⟩) h).trans (hc i v hv)
/-- The cells of an element of one's own row. -/
theorem own_cells {base et : Nat} {e : Ty} {g : Value} {m b c N : Nat} {css : List (List Value)} {l : List Value} {A : Nat → Prop} {xs : List e.D} (ho : w.ownsRow base et e.n g m css.flatten) (hg : g = .slice (some ⟨b, 0, none⟩) N c) (ha : all2 (fun l y => e.rd A w l y) css xs) {k : Nat} (hk : css[k]? = some l) : cellsAt w b (k * e.n) l := by
  intro i v hv
  have hf := flatten_get (rds_len ha) hk hv
  rcases ho.2 with ⟨rfl, _⟩ | ⟨g', cap, cur, rfl, h1, h2, h3, h4, h5, h6⟩
  · cases hg
  · injection hg with hg
    injection hg with hg
    injection hg with hg
    subst hg
    rw [cell_of_row w _ _ cur et (0, 0) h2]
    rw [← h6, List.getElem?_take] at hf
    split at hf
    · rw [← Array.getElem?_toList]; exact hf
    · cases hf
theorem sub_n {e t : Ty} {x : e.D} {off : Nat} {y : t.D} : e.sub x off t = some y → t.isSt = false → t.n = 1 := by
  have lf : ∀ {e : Ty} {x : e.D} {off : Nat}, e.n = 1 → (match Nat.beq off 0 with | true => castD e t x | false => none) = some y → t.n = 1 := by
    intro e x off hn h
    split at h
    · obtain ⟨rfl, _⟩ := castD_some h; exact hn
    · cases h
  induction e generalizing off with
  | int k => exact fun h _ => lf rfl h
  | bool => exact fun h _ => lf rfl h
  | str => exact fun h _ => lf rfl h
  | sl e => exact fun h _ => lf rfl h
  | st a ih =>
    intro h hs
    simp only [Ty.sub] at h
    split at h
    · rename_i z h0 h1
      obtain ⟨rfl, _⟩ := castD_some h1
      simp [Ty.isSt] at hs
    · exact ih h hs
  | pair a b iha ihb =>
    intro h hs
    simp only [Ty.sub] at h
    split at h
    · exact iha h hs
    · exact ihb h hs

theorem rel1_box {s : SV} {j off : Nat} {v : Value} (hs : s = .box j off) (h : Rel G (Av Z H G) w s v) : ∃ b, G[j]? = some (.pointer (some ⟨b, 0, none⟩)) ∧ v = .pointer (some ⟨b, off, none⟩) := by subst hs; exact h

theorem load_box (hr : SR Z w0 H G w) {rw : Bool} {t : Nat} {i : TI} (hc : chk P t i = true) {j off : Nat} {bt : TypeId} {cells : List SV} {p : Value} {s : SV} (hp : Rel G (Av Z H G) w (.box j off) p) (hj : H[j]? = some (.box bt cells)) (hl : loadB i.ty (cells.drop off) = some s) :
    ∃ v, Rel1 G (Av Z H G) w s v ∧ ∀ w', Agr rw H G w w' → (Instr.loadAt t p).run P w' = .ok v w' := by
  obtain ⟨b, hg, rfl⟩ := hp
  obtain ⟨b', vs, e1, hb, hblk, hrel⟩ := hr.items j _ _ hj hg
  injection e1 with e1
  injection e1 with e1
  injection e1 with e1
  subst e1
  have hcell : ∀ (cs : List Value), (∃ r, vs.drop off = cs ++ r) → cellsAt w b off cs := by
    rintro cs ⟨r, hcs⟩ k v hv
    refine hblk.cell _ ?_
    have : (vs.drop off)[k]? = some v := by rw [hcs, List.getElem?_append_left (List.getElem?_eq_some_iff.1 hv).1]; exact hv
    rw [List.getElem?_drop] at this
    simpa using this
  have hd := all2_drop off hrel
  unfold loadB at hl
  split at hl
  · rename_i hst
    split at hl
    · rename_i x r hjn
      injection hl with hl
      subst hl
      obtain ⟨v1, v2, h1, h2, _⟩ := join_rd hjn hd
      refine ⟨mkV i.ty v1, ⟨v1, h2, rfl⟩, fun w' ha => ?_⟩
      exact run_loadAt_ty hc w' b off v1 (Ty.rd_len h2) (fun h => by rw [hst] at h; cases h) (cellsAt_of (ha.box hr hj hg rfl) (hcell v1 ⟨v2, h1⟩))
    · cases hl
  · rename_i hst
    split at hl
    · rename_i s' r hdr
      split at hl <;> try (cases hl; done)
      rename_i hgood
      injection hl with hl
      subst hl
      rw [hdr] at hd
      match hv : vs.drop off, hd with
      | v :: vr, hd =>
        obtain ⟨h1, _⟩ := hd
        obtain ⟨d, hu, hrow⟩ := chk_st hc
        refine ⟨v, h1, fun w' ha => ?_⟩
        refine run_loadAt_leaf w' b off t v d ?_ hu (by rw [hrow, hst])
        have := cellsAt_of (ha.box hr hj hg rfl) (hcell [v] ⟨vr, hv⟩) 0 v rfl
        simpa using this
    · cases hl
theorem load_elt {rw : Bool} {t : Nat} {i : TI} (hc : chk P t i = true) {e : Ty} {x : e.D} {off : Nat} {p : Value} {y : i.ty.D} (hp : Rel G (Av Z H G) w (.elt e x off) p) (hs : e.sub x off i.ty = some y) :
    ∃ v, Rel1 G (Av Z H G) w (.d i.ty y) v ∧ ∀ w', Agr rw H G w w' → (Instr.loadAt t p).run P w' = .ok v w' := by
  obtain ⟨b, o, cs, rfl, hA, hb, hrd, hcs⟩ := hp
  have h1 := sub_rd hrd hs
  refine ⟨mkV i.ty _, ⟨_, h1, rfl⟩, fun w' ha => ?_⟩
  refine run_loadAt_ty hc w' b (o + off) _ (Ty.rd_len h1) (sub_n hs) (cellsAt_of (ha.pure hb hA) fun k v hv => ?_)
  rw [List.getElem?_take] at hv
  split at hv
  · rw [List.getElem?_drop] at hv
    have := hcs _ _ hv
    rwa [← Nat.add_assoc] at this
  · cases hv
theorem load_oelt (hr : SR Z w0 H G w) {t : Nat} {i : TI} (hc : chk P t i = true) {j k off : Nat} {et : TypeId} {e : Ty} {xs : List e.D} {x : e.D} {p : Value} {y : i.ty.D} (hp : Rel G (Av Z H G) w (.oelt j e.n k off) p) (hj : H[j]? = some (.row et e xs)) (hx : xs[k]? = some x) (hs : e.sub x off i.ty = some y) :
    ∃ v, Rel1 G (Av Z H G) w (.d i.ty y) v ∧ ∀ w', Agr true H G w w' → (Instr.loadAt t p).run P w' = .ok v w' := by
  obtain ⟨b, m, c, hg, rfl⟩ := hp
  have hit := hr.items j _ _ hj hg
  obtain ⟨css, ho, ha2, _⟩ := hit
  obtain ⟨l, hl, hrd⟩ := all2_get ha2 k x hx
  have h1 := sub_rd hrd hs
  refine ⟨mkV i.ty _, ⟨_, h1, rfl⟩, fun w' ha => ?_⟩
  have hb := ((hr.items j _ _ hj hg).blk rfl rfl).2
  refine run_loadAt_ty hc w' b (k * e.n + off) _ (Ty.rd_len h1) (sub_n hs) (cellsAt_of (ha.2 b hb (.inl rfl)) fun q v hv => ?_)
  rw [List.getElem?_take] at hv
  split at hv
  · rw [List.getElem?_drop] at hv
    have := own_cells ho rfl ha2 hl _ _ hv
    rwa [← Nat.add_assoc] at this
  · cases hv

theorem run_indexAt_sl {t : Nat} {i : TI} {e : Ty} (hc : chk P t i = true) (ht : i.ty = .sl e) (w : World) (b off len c : Nat) (kd : IntKind) (m : Int) (h0 : 0 ≤ m) (h1 : m < len) :
    (Instr.indexAt t (.slice (some ⟨b, off, none⟩) len c) (.int kd m)).run P w = .ok (.pointer (some ⟨b, off + m.toNat * e.n, none⟩)) w := by
  obtain ⟨hu, _, j, hj, hjs, _⟩ := chk_slice hc ht
  simp [Instr.indexAt, asIntOf, run_underlying hu, sizeOf, typeInfo, hj, h0, h1, add_plain, hjs]
theorem getI_some {α : Type} {xs : List α} {m : Int} {y : α} (h : getI xs m = some y) : 0 ≤ m ∧ m < xs.length ∧ xs[m.toNat]? = some y := by
  unfold getI at h
  split at h
  · rename_i h0
    have h0 := of_decide_eq_true h0
    have := (List.getElem?_eq_some_iff.1 h).1
    exact ⟨h0, by omega, h⟩
  · cases h
theorem index_sl {t : Nat} {i : TI} {e : Ty} (hc : chk P t i = true) (ht : i.ty = .sl e) {xs : List e.D} {m : Int} {y : e.D} {p : Value} {kd : IntKind} (hp : Rel G (Av Z H G) w (.d (.sl e) xs) p) (hy : getI xs m = some y) :
    ∃ v, Rel1 G (Av Z H G) w (.elt e y 0) v ∧ ∀ w', (Instr.indexAt t p (.int kd m)).run P w' = .ok v w' := by
  obtain ⟨cs, hrd, rfl⟩ := hp
  obtain ⟨p, n, c, css, rfl, h1, h2, h3, h4, h5⟩ := hrd
  obtain ⟨g1, g2, g3⟩ := getI_some hy
  obtain ⟨b, off, rfl, hA, hb, hcs⟩ := h5 (by omega)
  obtain ⟨l, hl, hrd⟩ := all2_get h4 _ _ g3
  refine ⟨.pointer (some ⟨b, off + m.toNat * e.n, none⟩), ⟨b, off + m.toNat * e.n, l, rfl, hA, hb, hrd, fun k v hv => ?_⟩, fun w' => run_indexAt_sl hc ht w' b off n c kd m g1 (by omega)⟩
  have := hcs _ _ (flatten_get (rds_len h4) hl hv)
  rwa [← Nat.add_assoc] at this
theorem own_form' {base et sz : Nat} {g : Value} {m : Nat} {cs : List Value} (h : w.ownsRow base et sz g m cs) : (g = .slice none 0 0 ∧ m = 0) ∨ ∃ b c, g = .slice (some ⟨b, 0, none⟩) m c := by
  rcases h.2 with h | ⟨g', cap, cur, rfl, _⟩
  · exact .inl h
  · exact .inr ⟨g', cap, rfl⟩
theorem index_own (hr : SR Z w0 H G w) {t : Nat} {i : TI} {e : Ty} (hc : chk P t i = true) (ht : i.ty = .sl e) {et : TypeId} {xs : List e.D} {j : Nat} {m : Int} {y : e.D} {p : Value} {kd : IntKind} (hj : H[j]? = some (.row et e xs)) (hp : Rel G (Av Z H G) w (.own j) p) (hy : getI xs m = some y) :
    ∃ v, Rel1 G (Av Z H G) w (.oelt j e.n m.toNat 0) v ∧ ∀ w', (Instr.indexAt t p (.int kd m)).run P w' = .ok v w' := by
  obtain ⟨css, ho, _⟩ := hr.items j _ _ hj hp
  obtain ⟨g1, g2, g3⟩ := getI_some hy
  rcases own_form' ho with ⟨rfl, h0⟩ | ⟨b, c, rfl⟩
  · omega
  · refine ⟨.pointer (some ⟨b, m.toNat * e.n, none⟩), ⟨b, _, c, hp, rfl⟩, fun w' => ?_⟩
    have := run_indexAt_sl hc ht w' b 0 xs.length c kd m g1 (by omega)
    rwa [Nat.zero_add] at this
end
end Go.Proofs.YtpiabmjipgfjjaaDoor

/- Operations that change the state, all of them. -/
import Derived.Test.YtpiabmjipgfjjaaDoorPuM
import Derived.Maps.AppendAt
import Derived.ArgAppend
namespace Go.Proofs.YtpiabmjipgfjjaaDoor
open Go.RowKit
def isStore : Op → Bool
  | .store .. => true
  | _ => false
def isApp : Op → Bool
  | .call ⟨.builtin .append, _, _⟩ => true
  | _ => false
theorem own_blk_eq {w : World} {base et sz m : Nat} {g : Value} {cs : List Value} (h : w.ownsRow base et sz g m cs) : g.ownBlock = blkOf g := by
  rcases own_form' h with ⟨rfl, _⟩ | ⟨b, c, rfl⟩ <;> rfl
theorem lenM {k : Nat} (h : k ≤ 140737488355328) : k ≤ maxLen := by unfold maxLen; omega
theorem run_buildSl {P : Program} (w : World) {t el : TypeId} {j : TypeInfo} {z : Value} {sz len : Nat} {parts : Array (Nat × Value)} {us : Array Value} (hu : P.underlying t = some (.slice el)) (hj : P.info? el = some j) (hjs : j.size = sz) (hjz : j.zero = some z) (hn : 0 < sz) (hb : len * sz ≤ 16777216)
    (hf : Instr.fill (fun i => some (i * sz, sz)) (madeCells z.cells (len * sz)) parts.toList = some us) : (Instr.buildSlice t len parts).run P w = .ok (.slice (some ⟨w.heap.size, 0, none⟩) len len) (w.alloc (.cells us el)) := by
  subst hjs
  have hgt : ¬ (len * j.size > 16777216) := by omega
  have hf' : Instr.fill (fun i => some (i * j.size, j.size)) ((Array.range (len * j.size)).map (z.cells[· % z.cells.size]!)) parts.toList = some us := hf
  by_cases hne : len * j.size = 0
  · have hr : Array.range 0 = #[] := rfl
    rw [hne, hr, Array.map_empty] at hf'
    simp only [Instr.buildSlice, Sem.run_bind, run_underlying hu, Result.andThen_ok, sizeOf, typeInfo, Sem.run_pure]
    simp [hj, hne, newRow, hr, hf']
  · simp only [Instr.buildSlice, Sem.run_bind, run_underlying hu, Result.andThen_ok, sizeOf, typeInfo, Sem.run_pure]
    simp [hj, hgt, hne, zeroValue, typeInfo, hjz, hf', newRow]
theorem run_append_none' {P : Program} (w : World) (base : Nat) (t ty e : TypeId) (i : TypeInfo) (size : Nat) (ht : P.underlying t = some (.slice e)) (hi : P.info? e = some i)
    (v : Value) (n : Nat) (xs : List Value) (hown : w.ownsRow base e size v n xs) (c : Nat) :
    (Builtin.append_ #[t, t] ty #[v, .slice none 0 c]).run P w = .ok v w := by
  rcases hown.2 with ⟨rfl, rfl⟩ | ⟨g, cap, cur, rfl, _, _, hnc, _⟩
  · simp [Builtin.append_, run_underlying ht, sizeOf, typeInfo, hi, Builtin.lenOf, Builtin.firstCells]
  · simp [Builtin.append_, run_underlying ht, sizeOf, typeInfo, hi, Builtin.lenOf, Builtin.firstCells, hnc, storeCells]
theorem flat_ints {A : Nat → Prop} {w : World} : ∀ {xs : List Int} {css : List (List Value)}, all2 (fun l y => (Ty.int .i64).rd A w l y) css xs → css.flatten = xs.map (Value.int .i64)
  | [], [], _ => rfl
  | y :: ys, c :: css, ⟨q1, q2⟩ => by
    have : c = [Value.int .i64 y] := q1
    subst this
    rw [List.flatten_cons, flat_ints q2]; rfl
section
variable {Z : Nat → Prop} {w0 : World} {n : Nat} {L : SL} {H : List Item} {G : List Value} {w : World} {a : Act} {P : Program} {T : TT} {E : Env} {R : Type}
/-- What is appended. -/
theorem src_rel (hr : SR Z w0 H G w) {s : SV} {v : Value} {e : Ty} {ys : List e.D} {t : Nat} (h : Rel G (Av Z H G) w s v) (ha : argS T H [s] [t] = some [.d (.sl e) ys]) :
    ∃ p m c css, v = .slice p m c ∧ ys.length = m ∧ all2 (fun l y => e.rd (Av Z H G) w l y) css ys ∧ (0 < m → ∃ b off, p = some ⟨b, off, none⟩ ∧ cellsAt w b off (List.flatten css)) := by
  simp only [argS] at ha
  split at ha
  · rename_i t' x
    simp only [Option.some.injEq, List.cons.injEq, and_true] at ha
    cases ha
    obtain ⟨cs, hrd, rfl⟩ := h
    obtain ⟨p, m, c, css, rfl, h1, _, _, h4, h5⟩ := hrd
    exact ⟨p, m, c, css, rfl, h1, h4, fun h0 => by obtain ⟨b, off, g1, _, _, g4⟩ := h5 h0; exact ⟨b, off, g1, g4⟩⟩
  · split at ha <;> try (cases ha; done)
    split at ha <;> try (cases ha; done)
    simp only [Option.some.injEq, List.cons.injEq, and_true] at ha
    cases ha
    exact ⟨none, 0, 0, [], h, rfl, trivial, fun h0 => absurd h0 (by omega)⟩
  · split at ha <;> try (cases ha; done)
    rename_i et e' xs hj
    simp only [Option.some.injEq, List.cons.injEq, and_true] at ha
    cases ha
    obtain ⟨css, ho, ha2, hn⟩ := hr.items _ _ _ hj h
    obtain ⟨_, p, c, hv, _, _, h3⟩ := Rd.of_own hn ho
    exact ⟨p, _, c, css, hv, rfl, ha2, fun h0 => by obtain ⟨b, off, g1, _, g3⟩ := h3 h0; exact ⟨b, off, g1, g3⟩⟩
  · simp only [Option.some.injEq, List.cons.injEq, and_true] at ha
    cases ha
    obtain ⟨p, hrd, rfl⟩ := h
    obtain ⟨p', m, c, css, e1, h1, _, _, h4, h5⟩ := hrd
    injection e1 with e1
    rw [e1]
    exact ⟨p', m, c, css, rfl, h1, h4, fun h0 => by obtain ⟨b, off, g1, _, _, g4⟩ := h5 h0; exact ⟨b, off, g1, g4⟩⟩
  · rename_i j sz lo n0
    split at ha <;> try (cases ha; done)
    rename_i et e' xs hj
    split at ha <;> try (cases ha; done)
    rename_i hsz
    have hsz := Nat.eq_of_beq_eq_true hsz
    subst hsz
    simp only [Option.some.injEq, List.cons.injEq, and_true] at ha
    cases ha
    obtain ⟨g, q, c, hg, rfl, h1, h2, h3⟩ := h
    obtain ⟨css0, ho, ha2, hn⟩ := hr.items _ _ _ hj hg
    have hl4 := rds_len ha2
    have hN : 0 < n0 → lo + n0 ≤ xs.length := fun h0 => by
      obtain ⟨b, N, c', rfl, h4, _⟩ := h3 h0
      rcases own_form' ho with ⟨h5, _⟩ | ⟨b', c'', h5⟩
      · cases h5
      · injection h5 with _ h5; omega
    refine ⟨q, n0, c, (css0.drop lo).take n0, rfl, ?_, all2_take _ (all2_drop _ ha2), fun h0 => ?_⟩
    · rcases Nat.eq_zero_or_pos n0 with h0 | h0
      · subst h0; simp
      · have := hN h0; simp; omega
    · obtain ⟨b, N, c', rfl, h4, rfl⟩ := h3 h0
      obtain ⟨_, p, c1, hv, _, _, h6⟩ := Rd.of_own hn ho
      injection hv with hv1 hv2 hv3
      obtain ⟨b', off, e1, h7, h8⟩ := h6 (by have := hN h0; omega)
      rw [e1] at hv1
      injection hv1 with hv1
      injection hv1 with e2 e3
      subst e2 e3
      refine ⟨b, _, rfl, fun k u hu => ?_⟩
      rw [flatten_take _ (fun l hm => hl4 l (List.mem_of_mem_drop hm)), flatten_drop _ hl4, List.getElem?_take] at hu
      split at hu
      · rw [List.getElem?_drop] at hu
        have := h8 _ _ hu
        rwa [Nat.zero_add] at this
      · cases hu
  · cases ha
/-- A call of what is known. -/
theorem callE_sound {fl f : Nat} {args : List Operand} {tys : List Nat} {k : SV → List Item → SL → Option R} {r : R} {Q : Value → World → Prop} (hE : EnvOk P E) (hI : inv w0) (hr : SR Z w0 H G w) (hf : FR Z n L H G w a) (h : callE T E fl L H f args tys k = some r)
    (hnext : ∀ s H' L' G' w' v, k s H' L' = some r → SR Z w0 H' G' w' → FR Z n L' H' G' w' a → Rel G' (Av Z H' G') w' s v → Chg Z fl false false H G w H' G' w' → Q v w') :
    callable P f = true ∧ Calls P f (args.map a.eval).toArray w fun e w' => ∃ v, e = .returned v ∧ Q v w' := by
  unfold callE at h
  split at h <;> try (cases h; done)
  rename_i sp hsp
  obtain ⟨hcl, hok, _⟩ := hE f sp hsp
  refine ⟨hcl, ?_⟩
  split at h
  · split at h <;> try (cases h; done)
    rename_i ss hss
    split at h <;> try (cases h; done)
    rename_i al hal
    obtain ⟨rs, hk, hcon⟩ := hok _ _ _ _ h
    have hrel := argS_rel (A := fun _ => True) (ss0 := ss) hr (fun _ _ _ => trivial) (.inl fun _ _ _ _ _ _ => trivial) (fun s hs => hs) hal (allS_rel hf hss)
    refine (hcon _ w _ (inv_below hI hr.below) hrel).mono ?_
    rintro e w' ⟨v, rfl, hb, hres⟩
    split at hk <;> try (cases hk; done)
    rename_i hkp
    obtain ⟨s, H', G', h1, h2, h3, h4, h5⟩ := putRes_sound hr hf hb hres (.inr hkp) hk fl false false
    exact ⟨v, rfl, hnext s H' L G' w' v h1 h2 h3 h4 h5⟩
  · split at h <;> try (cases h; done)
    rename_i L1 H1 hfz
    split at h <;> try (cases h; done)
    rename_i ss hss
    split at h <;> try (cases h; done)
    rename_i al hal hno
    obtain ⟨rs, hk, hcon⟩ := hok _ _ _ _ h
    obtain ⟨g1, g2, g3, g4, g5⟩ := fzAll_ok hr hf hfz
    have hrel : all2 (Rel1 [] (Av Z H1 G) w) al (args.map a.eval) := by
      refine argS_rel (A := Av Z H1 G) (ss0 := ss) g1 (fun _ _ h => h) (.inr ?_) (fun s hs => hs) hal (allS_rel g2 hss)
      intro s hs
      exact List.all_eq_true.1 hno _ hs
    refine (hcon _ w _ (inv_below hI hr.below) hrel).mono ?_
    rintro e w' ⟨v, rfl, hb, hres⟩
    obtain ⟨s, H', G', h1, h2, h3, h4, h5⟩ := putRes_sound g1 g2 hb hres (.inl fun _ _ h => h) hk fl false false
    exact ⟨v, rfl, hnext s H' L1 G' w' v h1 h2 h3 h4 (h5.after g3 g4 g5)⟩

set_option maxHeartbeats 1000000 in
theorem eop_sound {fl : Nat} {o : Oper} {k : SV → List Item → SL → Option R} {r : R} {N : Act → World → Prop} {Q : Exit → Act → World → Prop} (hT : chkAll P T = true) (hE : EnvOk P E) (hI : inv w0) (hr : SR Z w0 H G w) (hf : FR Z n L H G w a) (h : eop T E fl L H o k = some r)
    (hnext : ∀ s H' L' G' w' v, k s H' L' = some r → SR Z w0 H' G' w' → FR Z n L' H' G' w' a → Rel G' (Av Z H' G') w' s v → Chg Z fl (isStore o.op || isMut E L o.op) (isApp o.op) H G w H' G' w' → N (a.put o.dst v) w') :
    o.upon P a N Q ((execOp a.eval o).run P w) := by
  obtain ⟨dst, op, type, pos, after, guard⟩ := o
  have val : ∀ {v w'}, (execOp a.eval ⟨dst, op, type, pos, after, guard⟩).run P w = .ok (.value v) w' → N (a.put dst v) w' → Oper.upon P ⟨dst, op, type, pos, after, guard⟩ a N Q ((execOp a.eval ⟨dst, op, type, pos, after, guard⟩).run P w) := by
    intro v w' h1 h2
    rw [h1]
    exact h2
  unfold eop at h
  dsimp only at h hnext
  split at h
  case h_1 t x =>
    split at h <;> try (cases h; done)
    rename_i s hs
    split at h <;> try (cases h; done)
    rename_i cs hcs
    have hrel := opS_rel hf hs
    obtain ⟨G', h1, h2, h3, h4⟩ := new_box (t := t) hr hf (splitS_rel hr hrel hcs) fl false false
    refine val (v := .pointer (some ⟨w.heap.size, 0, none⟩)) (w' := w.alloc (.cells (a.eval x).cells t)) ?_ (hnext _ _ _ G' _ _ h h1 h2 h3 h4)
    simp [execOp, Instr.box, newVar, newRow]
  case h_2 t =>
    split at h <;> try (cases h; done)
    rename_i i hi
    split at h <;> try (cases h; done)
    rename_i ty hz hne
    have hck := chkAll_look hT hi
    obtain ⟨inf, hinf, hzero⟩ := chk_zero hck hz
    have hc : (mkV i.ty (zc i.ty)).cells.toList = zc i.ty := mkz_cells (by
      generalize i.ty = ty at *
      cases ty <;> first | exact .inr rfl | exact .inl rfl | exact (hne _ _ rfl).elim)
    obtain ⟨G', h1, h2, h3, h4⟩ := new_box (t := t) (cs := i.ty.zsplit) (vs := (mkV i.ty (zc i.ty)).cells) hr hf (by rw [hc]; exact zsplit_rel) fl false false
    refine val (v := .pointer (some ⟨w.heap.size, 0, none⟩)) (w' := w.alloc (.cells (mkV i.ty (zc i.ty)).cells t)) ?_ (hnext _ _ _ G' _ _ h h1 h2 h3 h4)
    simp [execOp, Instr.alloc, zeroValue, typeInfo, hinf, hzero, newVar, newRow]
  case h_3 t len parts =>
    split at h <;> try (cases h; done)
    rename_i i hi
    split at h <;> try (cases h; done)
    rename_i e he
    split at h <;> try (cases h; done)
    rename_i L1 H1 hfz
    split at h <;> try (cases h; done)
    rename_i cs hfl
    split at h <;> try (cases h; done)
    rename_i xs hjn hlen
    have hlen1 := Nat.le_of_ble_eq_true hlen
    obtain ⟨g1, g2, g3, g4, g5⟩ := fzAll_ok hr hf hfz
    have hck := chkAll_look hT hi
    obtain ⟨hu, hn0, j, hj, hjs, _, hjz, hone⟩ := chk_slice hck he
    have hz1 := mkz_cells hone
    have hcz : (mkV e (zc e)).cells.size = e.n ∧ (mkV e (zc e)).cells.toList = zc e := ⟨by have := congrArg List.length hz1; rw [zc_len] at this; simpa using this, hz1⟩
    have hm := made_rep (mkV e (zc e)).cells len
    rw [hcz.1, hcz.2] at hm
    obtain ⟨us', h1, h2⟩ := fillS_rel g1 g2 (us := madeCells (mkV e (zc e)).cells (len * e.n)) hfl (by rw [hm]; exact rep_rel (split_rel zc_rd) len)
    obtain ⟨css, hcss, hrds, hxl⟩ := joinN_rd hjn h2
    have hsz : us'.size = len * e.n := by
      have := flatten_len (rds_len hrds)
      rw [← hcss, all2_len hrds, hxl] at this
      simpa using this
    have hown := World.ownsRow_lit (e := i.el) (size := e.n) (base := w.heap.size) w us' len (Nat.le_refl _) (by unfold maxLen; have := Nat.le_trans (Nat.le_mul_of_pos_right len hn0) hlen1; omega) hsz
    have hbw := below_alloc w (.cells us' i.el)
    obtain ⟨G', k1, k2, k3, k4⟩ := new_row (et := i.el) (css := css) g1 g2 hbw (by rw [hxl, ← hcss]; exact hown) hn0 (all2_mono (fun l y h => Ty.rd_keep ⟨hbw.size, fun b hb hA => ⟨.inl hA, fun hh => by simp [blkOf] at hh; omega⟩, fun b hb _ => hbw.block b hb⟩ h) hrds) fl false false
    refine val (v := .slice (some ⟨w.heap.size, 0, none⟩) len len) (w' := w.alloc (.cells us' i.el)) ?_ (hnext _ _ _ G' _ _ h k1 k2 k3 (k4.after g3 g4 g5))
    have h1' : Instr.fill (fun i => some (i * e.n, e.n)) (madeCells (mkV e (zc e)).cells (len * e.n)) (parts.map fun p => (p.1, a.eval p.2)).toList = some us' := by
      rw [← h1]; simp
    have := run_buildSl (P := P) w hu hj hjs hjz hn0 hlen1 h1'
    simp [execOp, this]
  case h_4 t x y =>
    split at h <;> try (cases h; done)
    · rename_i kd m i hso hs hi
      split at h <;> try (cases h; done)
      rename_i e he
      split at h <;> try (cases h; done)
      rename_i hd
      have hd := of_decide_eq_true hd
      have hxy : y = x := by
        cases x <;> cases y <;> simp only [sameOp, Bool.false_eq_true] at hso
        rw [Nat.eq_of_beq_eq_true hso]
      subst hxy
      have hck := chkAll_look hT hi
      obtain ⟨hu, hn0, j, hj, hjs, hjb, hjz, hone⟩ := chk_slice hck he
      have hv := rel_int (opS_rel hf hs)
      obtain ⟨k0, rfl⟩ : ∃ k : Nat, m = (k : Int) := ⟨m.toNat, (Int.toNat_of_nonneg hd.1).symm⟩
      have hb1 : k0 * i.byt ≤ 140737488355328 := by
        have := hd.2.1
        rw [← Int.natCast_mul] at this
        exact Int.ofNat_le.1 this
      have hb2 : k0 ≤ 140737488355328 := Int.ofNat_le.1 hd.2.2
      have hz1 := mkz_cells hone
      have hcz : (mkV e (zc e)).cells.size = e.n := by have := congrArg List.length hz1; rw [zc_len] at this; simpa using this
      obtain ⟨w', hrun, hown, hgr⟩ := run_make_full (P := P) w w.heap.size t i.el j _ e.n hu hj hjz hjs kd kd k0 (by rw [hjb, Nat.mul_comm]; omega) (lenM hb2) (Nat.le_refl _)
      have hm := made_rep (mkV e (zc e)).cells k0
      rw [hcz, hz1] at hm
      obtain ⟨r1, r2⟩ := rep_rds (A := fun b => (Av Z H G b ∨ w.heap.size ≤ b) ∧ blkOf (.slice (some ⟨w.heap.size, 0, none⟩) k0 k0) ≠ some b) (w := w') (zc_rd (t := e)) k0
      have hbw : Below w.heap.size w w' := ⟨hgr.os, hgr.tape, hgr.output, hgr.size, fun b hb => hgr.block b hb (by simp)⟩
      obtain ⟨G', k1, k2, k3, k4⟩ := new_row (et := i.el) (e := e) (xs := List.replicate k0 e.zero) (css := List.replicate k0 (zc e)) hr hf hbw (by rw [r2, ← hm, List.length_replicate]; exact hown) hn0 r1 fl false false
      refine val (v := .slice (some ⟨w.heap.size, 0, none⟩) k0 k0) (w' := w') ?_ (hnext _ _ _ G' _ _ h k1 k2 k3 k4)
      simp [execOp, hv, hrun]
    · rename_i kd m i hso hs hi
      split at h <;> try (cases h; done)
      rename_i kd' n0 e hs' he
      split at h <;> try (cases h; done)
      rename_i hd
      obtain ⟨hm0, hd2⟩ := of_decide_eq_true hd
      clear hd
      subst hm0
      have hck := chkAll_look hT hi
      obtain ⟨hu, hn0, j, hj, hjs, hjb, hjz, hone⟩ := chk_slice hck he
      have hv := rel_int (opS_rel hf hs)
      have hv' := rel_int (opS_rel hf hs')
      obtain ⟨k0, rfl⟩ : ∃ k : Nat, n0 = (k : Int) := ⟨n0.toNat, (Int.toNat_of_nonneg hd2.1).symm⟩
      have hb1 : k0 * i.byt ≤ 140737488355328 := by
        have := hd2.2.1
        rw [← Int.natCast_mul] at this
        exact Int.ofNat_le.1 this
      have hb2 : k0 ≤ 140737488355328 := Int.ofNat_le.1 hd2.2.2
      obtain ⟨w', hrun, hown, hgr⟩ := run_make_own (P := P) w w.heap.size t i.el j _ e.n hu hj hjz hjs kd kd' k0 (by rw [hjb, Nat.mul_comm]; omega) (lenM hb2) (Nat.le_refl _)
      have hbw : Below w.heap.size w w' := ⟨hgr.os, hgr.tape, hgr.output, hgr.size, fun b hb => hgr.block b hb (by simp)⟩
      obtain ⟨G', k1, k2, k3, k4⟩ := new_row (et := i.el) (e := e) (xs := []) (css := []) hr hf hbw (by simpa using hown) hn0 trivial fl false false
      refine val (v := .slice (some ⟨w.heap.size, 0, none⟩) 0 k0) (w' := w') ?_ (hnext _ _ _ G' _ _ h k1 k2 k3 k4)
      simp [execOp, hv, hv', hrun]
  case h_5 t x v =>
    have sk : ∀ {w'}, (Instr.storeAt t (a.eval x) (a.eval v)).run P w = .ok () w' → N (a.put dst undef) w' → Oper.upon P ⟨dst, .store t x v, type, pos, after, guard⟩ a N Q ((execOp a.eval ⟨dst, .store t x v, type, pos, after, guard⟩).run P w) := by
      intro w' h1 h2
      have : (execOp a.eval ⟨dst, .store t x v, type, pos, after, guard⟩).run P w = .ok .skip w' := by simp [execOp, h1]
      rw [this]
      exact h2
    split at h <;> try (cases h; done)
    · rename_i j off s i hx hs hi
      split at h <;> try (cases h; done)
      rename_i bt cells l hj hl
      split at h <;> try (cases h; done)
      rename_i hb
      simp only [Bool.and_eq_true] at hb
      have hb1 := Nat.eq_of_beq_eq_true hb.1
      have hb2 := Nat.le_of_ble_eq_true hb.2
      obtain ⟨b, hg, hxv⟩ := opS_rel hf hx
      have hrel := opS_rel hf hs
      have hsp := splitS_rel hr hrel hl
      obtain ⟨b', vs, e1, hbb, hblk, hcs⟩ := hr.items j _ _ hj hg
      injection e1 with e1
      injection e1 with e1
      injection e1 with e1
      subst e1
      have hll := all2_len hsp
      have hcl := all2_len hcs
      have hrun := run_storeAt_ty (chkAll_look hT hi) w b off bt vs.toArray (a.eval v) hblk (by omega) (by simp only [List.size_toArray]; omega) (splitS_one hr hrel hl)
      obtain ⟨k1, k2, k3⟩ := mod_item (it' := .box bt (over cells off l)) (cs := (overV vs off (a.eval v).cells.toList).toArray) hr hf hj rfl hg rfl (fun hk _ => ⟨b, overV vs off (a.eval v).cells.toList, rfl, hbb, setRow_heap w b _ _ bt (0, 0) hblk, all2_mono hk (over_rel off hsp hcs)⟩) fl false
      refine sk (by rw [hxv]; exact hrun) (hnext .undef _ _ G _ undef h k1 k2 rfl k3)
    · rename_i j sz m off t' y i hx hs hi
      split at h <;> try (cases h; done)
      rename_i et e xs hfl hj
      split at h <;> try (cases h; done)
      rename_i x0 hb hx0
      simp only [Bool.and_eq_true] at hb
      have hb1 := Nat.eq_of_beq_eq_true hb.1
      have hb2 := Nat.eq_of_beq_eq_true hb.2
      subst hb1
      split at h <;> try (cases h; done)
      rename_i x' hne hup
      obtain ⟨b, m', c, hg, hxv⟩ := opS_rel hf hx
      obtain ⟨vs, hrd, hvv⟩ := opS_rel hf hs
      obtain ⟨css, ho, ha2, hn0⟩ := hr.items j _ _ hj hg
      obtain ⟨l, hl, hlrd⟩ := all2_get ha2 m x0 hx0
      obtain ⟨u1, u2⟩ := upd_rd hlrd hup hrd
      have hvc : (a.eval v).cells.toList = vs := by rw [hvv]; exact mkV_cells (fun p q e => by subst e; exact hne p q y rfl HEq.rfl) hrd
      have hls := rds_len ha2
      have hll := hls l (List.mem_of_getElem? hl)
      rcases ho.2 with ⟨e1, _⟩ | ⟨g, cap, cur, e1, h1, h2, h3, h4, h5, h6⟩
      · cases e1
      · injection e1 with e1 e2 e3
        injection e1 with e1
        injection e1 with e1
        subst e1 e2 e3
        have hmlt : m < xs.length := (List.getElem?_eq_some_iff.1 hx0).1
        have hfit : m * e.n + e.n ≤ xs.length * e.n := by rw [← Nat.succ_mul]; exact Nat.mul_le_mul_right _ hmlt
        have hcap : xs.length * e.n ≤ c * e.n := Nat.mul_le_mul_right _ h3
        have hrun := run_storeAt_ty (chkAll_look hT hi) w b (m * e.n + off) et cur (a.eval v) h2 (by rw [hvc, Ty.rd_len hrd, hb2]) (by rw [hvc]; omega) (by rw [hvc]; exact rd_one hrd)
        rw [hvc] at hrun
        obtain ⟨k1, k2, k3⟩ := mod_item (it' := .row et e (xs.set m x')) (cs := (overV cur.toList (m * e.n + off) vs).toArray) hr hf hj rfl hg rfl (fun _ hk => by
          refine ⟨css.set m (overV l off vs), ⟨?_, .inr ⟨b, c, _, by rw [List.length_set], h1, setRow_heap w b cur _ et (0, 0) h2, by rw [List.length_set]; exact h3, h4, ?_, ?_⟩⟩, all2_set m (all2_mono (fun l y h => hk _ l y h) ha2) (hk _ _ _ u1), hn0⟩
          · rw [← overV_flat hls hl (by omega), overV_len, List.length_set]; exact ho.1
          · simp [overV_len, h5]
          · rw [List.length_set]
            show (overV cur.toList (m * e.n + off) vs).take (xs.length * e.n) = _
            rw [overV_take _ _ _ _ (by omega) (by simp; omega), h6, overV_flat hls hl (by omega)]) fl false
        refine sk (by rw [hxv]; exact hrun) (hnext .undef _ _ G _ undef h k1 k2 rfl k3)
  case h_6 x y t t' =>
    split at h <;> try (cases h; done)
    rename_i i htt hi
    split at h <;> try (cases h; done)
    rename_i e he
    split at h <;> try (cases h; done)
    rename_i e' ys0 hys
    split at h <;> try (cases h; done)
    rename_i ys hcast
    obtain ⟨ee, rfl⟩ := castD_some hcast
    injection ee with ee
    subst ee
    have := Nat.eq_of_beq_eq_true htt
    subst this
    clear hcast
    dsimp only at h
    have hck := chkAll_look hT hi
    obtain ⟨hu, hn0, j, hj, hjs, hjb, hjz, hone⟩ := chk_slice hck he
    have hz1 := mkz_cells hone
    have hcz : (mkV e' (zc e')).cells.size = e'.n := by have := congrArg List.length hz1; rw [zc_len] at this; simpa using this
    obtain ⟨sy, hsy, hsy2⟩ : ∃ sy, opS L y = some sy ∧ argS T H [sy] [t] = some [.d (.sl e') ys0] := by
      cases hq : opS L y with
      | none => rw [hq] at hys; simp [argS] at hys
      | some sy => rw [hq] at hys; exact ⟨sy, rfl, hys⟩
    have hyr := opS_rel hf hsy
    obtain ⟨p, m, c, css, hyv, hym, hya, hyc⟩ := src_rel hr hyr hsy2
    have hfl := flatten_len (rds_len hya)
    rw [all2_len hya, hym] at hfl
    have hone' := rds_one hya
    -- the run, whatever row it goes onto
    have run : ∀ (g : Value) (N0 : Nat) (cs1 : List Value), w.ownsRow w0.heap.size i.el e'.n g N0 cs1 → (N0 + m) * i.byt ≤ 140737488355328 → N0 + m ≤ 140737488355328 →
        ∃ v' w', (Builtin.append_ #[t, t] type #[g, a.eval y]).run P w = .ok v' w' ∧ w'.ownsRow w0.heap.size i.el e'.n v' (N0 + m) (cs1 ++ css.flatten) ∧ w.grownBy w' (blkOf g) ∧ (blkOf v' = blkOf g ∨ blkOf v' = some w.heap.size) := by
      intro g N0 cs1 hown hb1 hb2
      rw [hyv]
      cases p with
      | none =>
        have hm0 : m = 0 := by
          rcases Nat.eq_zero_or_pos m with h0 | h0
          · exact h0
          · obtain ⟨b, off, hp, _⟩ := hyc h0; cases hp
        subst hm0
        have hcss : css.flatten = [] := List.eq_nil_of_length_eq_zero (by simpa using hfl)
        refine ⟨g, w, run_append_none' (P := P) w w0.heap.size t type i.el j e'.n hu hj g N0 cs1 hown c, by rw [hcss, List.append_nil]; exact hown, ⟨rfl, rfl, rfl, Nat.le_refl _, fun _ _ _ => rfl⟩, .inl rfl⟩
      | some ad =>
        obtain ⟨v', w', h1, h2, h3, _, h5⟩ := run_append_own_at (P := P) w w0.heap.size t type i.el j _ e'.n i.byt hu hj hjz hjs hjb hcz hn0 g N0 cs1 hown ad m c css.flatten (by rw [hfl]) (fun q u hq => by
          have hm0 : 0 < m := by
            rcases Nat.eq_zero_or_pos m with h0 | h0
            · subst h0
              have hnil : css.flatten = [] := List.eq_nil_of_length_eq_zero (by rw [hfl]; simp)
              rw [hnil] at hq; simp at hq
            · exact h0
          obtain ⟨b, off, hp, hc⟩ := hyc hm0
          injection hp with hp
          subst hp
          rw [add_plain]
          exact hc q u hq) hone' (lenM hb2) hb1 hr.below.size
        exact ⟨v', w', h1, h2, by rw [← own_blk_eq hown]; exact h3, by rw [← own_blk_eq hown, ← own_blk_eq h2]; exact h5⟩
    have ex : ∀ {v' w'}, (Builtin.append_ #[t, t] type #[a.eval x, a.eval y]).run P w = .ok v' w' → (execOp a.eval ⟨dst, .call ⟨.builtin .append, ⟨[x, y]⟩, ⟨[t, t]⟩⟩, type, pos, after, guard⟩).run P w = .ok (.value v') w' := by
      intro v' w' h1
      have h1' : (Builtin.append_ [t, t].toArray type [a.eval x, a.eval y].toArray).run P w = .ok v' w' := h1
      simp [execOp, resolve, invoke, builtin, h1']
    split at h <;> try (cases h; done)
    · rename_i j0 hx
      split at h <;> try (cases h; done)
      rename_i et e0 xs0 hflr hj0
      split at h <;> try (cases h; done)
      rename_i xs het hcast
      obtain ⟨ee, rfl⟩ := castD_some hcast
      injection ee with ee
      subst ee
      clear hcast
      dsimp only at h
      split at h <;> try (cases h; done)
      rename_i hd
      have hd := of_decide_eq_true hd
      have het := Nat.eq_of_beq_eq_true het
      subst het
      have hxr := opS_rel hf hx
      have hitem := hr.items j0 _ _ hj0 hxr
      obtain ⟨css1, ho1, ha1, _⟩ := hitem
      obtain ⟨v', w', h1, h2, h3, h4⟩ := run _ _ _ ho1 (by rw [← hym]; exact hd.1) (by rw [← hym]; exact hd.2)
      have hnp : ∀ q, a.eval x ≠ .pointer q := fun q hq => by rcases own_form' ho1 with ⟨e1, _⟩ | ⟨b, c, e1⟩ <;> rw [hq] at e1 <;> cases e1
      have hst := step_app (et' := i.el) (e' := e0) (xs' := xs0 ++ ys0) hr hj0 hxr hnp h3 hr.below.size (g' := v') (fun b hb => by
        rcases h4 with h4 | h4
        · left; rw [← h4]; exact hb
        · right; rw [h4] at hb; injection hb with hb; omega)
      have hlt := (List.getElem?_eq_some_iff.1 hj0).1
      refine val (ex h1) (hnext (.own j0) _ _ (G.set j0 v') w' v' h (hst.sr hr fun it' g' k1 k2 => ?_) (hf.map fun s v hs => hst.rel1 hr hs (wk_kill j0 False s)) ?_ ?_)
      · rw [List.getElem?_set, if_pos rfl, if_pos (by simpa using hlt)] at k1
        rw [List.getElem?_set, if_pos rfl, if_pos (by rw [hr.len]; exact hlt)] at k2
        injection k1 with k1
        injection k2 with k2
        subst k1 k2
        refine ⟨css1 ++ css, ?_, all2_append (all2_mono (fun l y h => Ty.rd_keep (hst.keeps hr) h) ha1) (all2_mono (fun l y h => Ty.rd_keep (hst.keeps hr) h) hya), hn0⟩
        rw [List.length_append, hym, List.flatten_append]
        exact h2
      · show (G.set j0 v')[j0]? = some v'
        rw [List.getElem?_set, if_pos rfl, if_pos (by rw [hr.len]; exact hlt)]
      · refine ⟨fun s v hs hfl => ?_, .inr ⟨⟨h3.size, fun b hb hor => h3.block b hb fun e1 => ?_⟩, ?_⟩, by simp⟩
        · have hof : s.of1 j0 = false := by
            cases hq : s.of1 j0 with
            | false => rfl
            | true => have := hfl j0 hq; have := Nat.le_of_ble_eq_true hflr; omega
          have := hst.rel1 hr hs (wk_kill j0 False s)
          unfold kill at this
          rw [hof] at this
          exact this
        · rcases hor with hor | hor
          · cases hor
          · exact hor ⟨j0, _, _, _, _, hj0, hxr, e1.symm⟩
        · rintro b hb ⟨q, et2, e2, xs2, g2, k1, k2, k3⟩
          by_cases hq : j0 = q
          · subst hq
            rw [List.getElem?_set, if_pos rfl, if_pos (by rw [hr.len]; exact hlt)] at k2
            injection k2 with k2
            subst k2
            rcases h4 with h4 | h4
            · exact ⟨j0, _, _, _, _, hj0, hxr, by rw [← h4]; exact k3⟩
            · rw [h4] at k3; injection k3 with k3; omega
          · rw [List.getElem?_set, if_neg hq] at k2
            rw [List.getElem?_set, if_neg hq, List.getElem?_map] at k1
            cases hh : H[q]? with
            | none => rw [hh] at k1; cases k1
            | some it =>
              rw [hh] at k1
              cases it with
              | box t cs => simp [mapI] at k1
              | gone => simp [mapI] at k1
              | row a1 a2 a3 =>
                simp only [mapI, Option.map_some, Option.some.injEq] at k1
                exact ⟨q, et2, e2, xs2, g2, by rw [hh, k1], k2, k3⟩
    · rename_i hx
      split at h <;> try (cases h; done)
      rename_i hd
      have hd := of_decide_eq_true hd
      have hxr : a.eval x = .slice none 0 0 := opS_rel hf hx
      obtain ⟨v', w', h1, h2, h3, h4⟩ := run (.slice none 0 0) 0 [] (World.ownsRow_nil w _ _ _) (by rw [← hym, Nat.zero_add]; exact hd.1) (by rw [← hym, Nat.zero_add]; exact hd.2)
      have hbw : Below w.heap.size w w' := ⟨h3.os, h3.tape, h3.output, h3.size, fun b hb => h3.block b hb (by simp [blkOf])⟩
      have hown : w'.ownsRow w.heap.size i.el e'.n v' ys0.length css.flatten := by
        rw [Nat.zero_add, List.nil_append] at h2
        refine ⟨by rw [hym]; exact h2.1, ?_⟩
        rcases h2.2 with ⟨k1, k2⟩ | ⟨g, cap, cur, k1, k2, k3⟩
        · exact .inl ⟨k1, by rw [hym]; exact k2⟩
        · refine .inr ⟨g, cap, cur, by rw [hym]; exact k1, ?_, by rw [hym]; exact k3⟩
          rw [k1] at h4
          simp [blkOf] at h4
          omega
      have hblk : ∀ b, b < w.heap.size → blkOf v' ≠ some b := fun b hb h5 => by
        rcases h4 with h4 | h4
        · rw [h4] at h5; simp [blkOf] at h5
        · rw [h4] at h5; injection h5 with h5; omega
      obtain ⟨G', k1, k2, k3, k4⟩ := new_row (et := i.el) (css := css) hr hf hbw hown hn0 (all2_mono (fun l y h => Ty.rd_keep ⟨hbw.size, fun b hb hA => ⟨.inl hA, hblk b hb⟩, fun b hb _ => hbw.block b hb⟩ h) hya) fl false true
      exact val (ex (by rw [hxr]; exact h1)) (hnext _ _ _ G' _ _ h k1 k2 k3 k4)
    · rename_i e0 xs0 hx
      split at h <;> try (cases h; done)
      rename_i xs hcast
      obtain ⟨ee, rfl⟩ := castD_some hcast
      injection ee with ee
      subst ee
      clear hcast
      dsimp only at h
      split at h <;> try (cases h; done)
      rename_i hd
      obtain ⟨hd1, hd2, hd3, hd4⟩ := of_decide_eq_true hd
      obtain ⟨px, hrd, hxv⟩ := opS_rel hf hx
      obtain ⟨px', nx, cx, cssx, e1, hx1, hx2, hx3, hx4, hx5⟩ := hrd
      injection e1 with e1
      injection e1 with e1 e2 e3
      subst e1 e2 e3
      have hx0 : 0 < xs0.length := by
        cases xs0 with
        | nil => exact absurd rfl hd1
        | cons => simp
      have hy0 : 0 < m := by
        rw [← hym]
        cases ys0 with
        | nil => exact absurd rfl hd2
        | cons => simp
      obtain ⟨bx, ox, rfl, hAx, hbx, hcx⟩ := hx5 hx0
      obtain ⟨by_, oy, rfl, hcy⟩ := hyc hy0
      have hflx := flatten_len (rds_len hx4)
      rw [all2_len hx4] at hflx
      obtain ⟨v', w', h1, h2, h3⟩ := run_append_arg_grows (P := P) w t type i.el j _ e0.n i.byt hu hj hjz hjs hjb hcz hn0 ⟨bx, ox, none⟩ xs0.length xs0.length cssx.flatten hflx (fun q u hq => by rw [add_plain]; exact hcx q u hq)
        ⟨by_, oy, none⟩ m c css.flatten hfl (fun q u hq => by rw [add_plain]; exact hcy q u hq) (by omega) (lenM (by rw [← hym]; exact hd4)) (by rw [← hym]; exact hd3)
      have hbw : Below w.heap.size w w' := ⟨h3.os, h3.tape, h3.output, h3.size, fun b hb => h3.block b hb (by simp)⟩
      have hblk : ∀ b, b < w.heap.size → blkOf v' ≠ some b := fun b hb h5 => by
        rcases h2.2 with ⟨k1, k2⟩ | ⟨g, cap, cur, k1, k2, _⟩
        · rw [k1] at h5; simp [blkOf] at h5
        · rw [k1] at h5; simp [blkOf] at h5; omega
      obtain ⟨G', k1, k2, k3, k4⟩ := new_row (et := i.el) (e := e0) (xs := xs0 ++ ys0) (css := cssx ++ css) hr hf hbw (by rw [List.length_append, hym, List.flatten_append]; exact h2) hn0 (all2_append (all2_mono (fun l y h => Ty.rd_keep ⟨hbw.size, fun b hb hA => ⟨.inl hA, hblk b hb⟩, fun b hb _ => hbw.block b hb⟩ h) hx4) (all2_mono (fun l y h => Ty.rd_keep ⟨hbw.size, fun b hb hA => ⟨.inl hA, hblk b hb⟩, fun b hb _ => hbw.block b hb⟩ h) hya)) fl false true
      exact val (ex (by rw [hxv, hyv]; exact h1)) (hnext _ _ _ G' _ _ h k1 k2 k3 k4)
  case h_7 f args tys =>
    split at h <;> try (cases h; done)
    rename_i g hs
    obtain ⟨bs, hbs, hfv⟩ := opS_rel hf hs
    have : bs = [] := by cases bs with | nil => rfl | cons => exact hbs.elim
    subst this
    split at h
    · rename_i gm hgm
      split at h <;> try (cases h; done)
      rename_i x hargs
      split at h <;> try (cases h; done)
      rename_i j hxs
      split at h <;> try (cases h; done)
      rename_i et xs hfl hj
      split at h <;> try (cases h; done)
      rename_i hlen
      have hlen := of_decide_eq_true hlen
      have hsp : ∃ sp, lookE E g = some sp ∧ sp.mut_ = some gm := by
        unfold mutOf at hgm
        split at hgm
        · rename_i sp hsp; exact ⟨sp, hsp, hgm⟩
        · cases hgm
      obtain ⟨sp, hsp, hmu⟩ := hsp
      obtain ⟨hcl, _, hmc⟩ := hE g sp hsp
      have hxr := opS_rel hf hxs
      obtain ⟨css, ho, ha, hn0⟩ := hr.items j _ _ hj hxr
      have hcss : css.flatten = xs.map (Value.int .i64) := flat_ints ha
      rw [hcss] at ho
      have hrun := run_call hcl a.eval ⟨dst, .call ⟨.value f, args, tys⟩, type, pos, after, guard⟩ f args tys #[] rfl hfv w
      rw [hrun]
      have e1 : Array.map a.eval args ++ #[] = #[a.eval x] := by obtain ⟨l⟩ := args; simp only at hargs; subst hargs; simp
      rw [e1]
      have hmut : isMut E L (.call ⟨.value f, args, tys⟩) = true := by simp only [isMut, hs, hgm, Option.isSome_some]
      have hmc := hmc gm hmu
      unfold MCon at hmc
      split at h
      · rename_i hret
        rw [hret] at hmc
        refine Calls.mono (hmc w _ et _ xs ho hlen) ?_
        rintro e w' ⟨rfl, k1, k2, k3⟩
        have hblk : ∀ b, b < w.heap.size → (∀ g', G[j]? = some g' → blkOf g' ≠ some b) → w'.heap[b]? = w.heap[b]? := fun b hb hn => k3.block b hb fun e2 => hn _ hxr e2.symm
        have hB : Below w0.heap.size w0 w' := hr.below.grown k3 hr.below.size fun q hq => ((hr.items j _ _ hj hxr).blk rfl hq).1
        have hst := step_mod (it' := .row et (.int .i64) (gm.g xs)) hr hj rfl hB k3.size hblk
        refine hnext (.tup []) _ _ G w' _ h (sr_mod hr hj rfl hB k3.size hblk fun g' hg' => ?_) (hf.keep fun s v hv => rel_new hr hst hv) ⟨[], rfl, trivial⟩ ⟨fun s v hv _ => rel_new hr hst hv, .inl (by rw [hmut]; simp), by simp⟩
        rw [show G[j]? = some (a.eval x) from hxr] at hg'
        injection hg' with hg'
        subst hg'
        refine ⟨(gm.g xs).map fun y => [Value.int .i64 y], ?_, ?_, Nat.le_refl _⟩
        · have e2 : ((gm.g xs).map fun y => [Value.int .i64 y]).flatten = (gm.g xs).map (Value.int .i64) := by induction gm.g xs with | nil => rfl | cons y ys ih => simp [ih]
          rw [e2, k2]
          exact k1
        · induction gm.g xs with
          | nil => trivial
          | cons y ys ih => exact ⟨rfl, ih⟩
      · rename_i hret
        rw [hret] at hmc
        refine Calls.mono (hmc w _ et _ xs ho hlen) ?_
        rintro e w' ⟨v', rfl, k1, k3, k4⟩
        have hnp : ∀ q, a.eval x ≠ .pointer q := fun q hq => by rcases own_form' ho with ⟨e1, _⟩ | ⟨b, c, e1⟩ <;> rw [hq] at e1 <;> cases e1
        have hst := step_app (et' := et) (e' := .int .i64) (xs' := gm.g xs) hr hj hxr hnp k3 hr.below.size (g' := v') (fun b hb => .inl (by rw [← k4]; exact hb))
        have hlt := (List.getElem?_eq_some_iff.1 hj).1
        refine hnext (.own j) _ _ (G.set j v') w' v' h (hst.sr hr fun it' g' q1 q2 => ?_) (hf.map fun s v hs => hst.rel1 hr hs (wk_kill j False s)) ?_ ⟨fun s v hs hfl' => ?_, .inl (by rw [hmut]; simp), by simp⟩
        · rw [List.getElem?_set, if_pos rfl, if_pos (by simpa using hlt)] at q1
          rw [List.getElem?_set, if_pos rfl, if_pos (by rw [hr.len]; exact hlt)] at q2
          injection q1 with q1
          injection q2 with q2
          subst q1 q2
          refine ⟨(gm.g xs).map fun y => [Value.int .i64 y], ?_, ?_, Nat.le_refl _⟩
          · have e2 : ((gm.g xs).map fun y => [Value.int .i64 y]).flatten = (gm.g xs).map (Value.int .i64) := by induction gm.g xs with | nil => rfl | cons y ys ih => simp [ih]
            rw [e2]
            exact k1
          · induction gm.g xs with
            | nil => trivial
            | cons y ys ih => exact ⟨rfl, ih⟩
        · show (G.set j v')[j]? = some v'
          rw [List.getElem?_set, if_pos rfl, if_pos (by rw [hr.len]; exact hlt)]
        · have hof : s.of1 j = false := by
            cases hq : s.of1 j with
            | false => rfl
            | true => have := hfl' j hq; have := Nat.le_of_ble_eq_true hfl; omega
          have := hst.rel1 hr hs (wk_kill j False s)
          unfold kill at this
          rw [hof] at this
          exact this
    rename_i hgm
    have hmut : isMut E L (.call ⟨.value f, args, tys⟩) = false := by simp only [isMut, hs, hgm, Option.isSome_none]
    obtain ⟨hcl, hcalls⟩ := callE_sound (Q := fun v w' => N (a.put dst v) w') hE hI hr hf h fun s H' L' G' w' v h1 h2 h3 h4 h5 => hnext s H' L' G' w' v h1 h2 h3 h4 (by rw [hmut]; exact h5)
    have := run_call hcl a.eval ⟨dst, .call ⟨.value f, args, tys⟩, type, pos, after, guard⟩ f args tys #[] rfl hfv w
    rw [this]
    have e1 : Array.map a.eval args ++ #[] = (args.toList.map a.eval).toArray := by obtain ⟨l⟩ := args; simp
    rw [e1]
    refine Calls.mono hcalls ?_
    rintro e w' ⟨v, rfl, hN⟩
    exact hN
  case h_8 => cases h
end
end Go.Proofs.YtpiabmjipgfjjaaDoor

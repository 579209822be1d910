/- The quiet operations are the machine's. -/
import Derived.Test.YtpiabmjipgfjjaaDoorPuG
import Derived.Lib.LazyBuf
namespace Go.Proofs.YtpiabmjipgfjjaaDoor
open Go.RowKit
theorem rel_int {G : List Value} {A : Nat → Prop} {w : World} {k : IntKind} {x : Int} {v : Value} (h : Rel G A w (.d (.int k) x) v) : v = .int k x := by
  obtain ⟨cs, h1, rfl⟩ := h
  simp only [Ty.rd] at h1
  subst h1
  rfl
theorem rel_bool {G : List Value} {A : Nat → Prop} {w : World} {x : Bool} {v : Value} (h : Rel G A w (.d .bool x) v) : v = .bool x := by
  obtain ⟨cs, h1, rfl⟩ := h
  simp only [Ty.rd] at h1
  subst h1
  rfl
theorem run_len_sl {P : Program} {t ty : TypeId} {i : TI} {e : Ty} (hc : chk P t i = true) (ht : i.ty = .sl e) (w : World) (p : Option Addr) (n c : Nat) : (Builtin.len_ #[t] ty #[.slice p n c]).run P w = .ok (.int .i64 n) w := by
  obtain ⟨hu, _⟩ := chk_slice hc ht
  simp [Builtin.len_, run_underlying hu, goInt]
def isLoad : Op → Bool
  | .load .. => true
  | _ => false
theorem run_win {P : Program} {t : Nat} {i : TI} {e : Ty} (hc : chk P t i = true) (ht : i.ty = .sl e) (w' : World) (q : Option Addr) (n c : Nat) {l h : Int} {lo hi : Option Value}
    (hlo : (lo = none ∧ l = 0) ∨ ∃ kd, lo = some (.int kd l)) (hhi : (hi = none ∧ h = (n : Int)) ∨ ∃ kd, hi = some (.int kd h)) (hb : 0 ≤ l ∧ l ≤ h ∧ h ≤ (n : Int)) (hnc : n ≤ c) :
    (Instr.sliceAt t (.slice q n c) lo hi none).run P w' = .ok (sliced q l.toNat h.toNat c e.n) w' := by
  obtain ⟨hu, _, j, hj, hjs, _⟩ := chk_slice hc ht
  obtain ⟨b1, b2, b3⟩ := hb
  have hel : P.elem t = i.el := by simp [Program.elem, hu]
  have hu' : P.underlying t = some (.slice (P.elem t)) := by rw [hel]; exact hu
  have hsz : ∀ w', (sizeOf (P.elem t)).run P w' = .ok e.n w' := fun w' => by rw [hel]; simp [sizeOf, typeInfo, hj, hjs]
  rw [run_sliceAt_slice w' t _ lo hi none hu']
  rcases hlo with ⟨rfl, rfl⟩ | ⟨kl, rfl⟩ <;> rcases hhi with ⟨rfl, rfl⟩ | ⟨kh, rfl⟩
  · have := run_slice_all (P := P) w' t q n c hu'
    simp only [this, hsz, Result.andThen_ok]
    simp
  · have := run_slice_h (P := P) w' t q n c hu' kh h (by omega) (by omega)
    simp only [this, hsz, Result.andThen_ok]
    simp
  · have := run_slice_l (P := P) w' t q n c hu' kl l (by omega) (by omega)
    simp only [this, hsz, Result.andThen_ok]
    simp
  · have := run_slice_lh (P := P) w' t q n c hu' kl kh l h (by omega) (by omega) (by omega)
    simp only [this, hsz, Result.andThen_ok]
section
variable {Z : Nat → Prop} {w0 : World} {n : Nat} {L : SL} {H : List Item} {G : List Value} {w : World} {a : Act} {P : Program} {T : TT} {R : Type}
set_option maxHeartbeats 1000000 in
theorem qop_sound {rw : Bool} {o : Oper} {k : SV → Option R} {r : R} (hT : chkAll P T = true) (hr : SR Z w0 H G w) (hf : FR Z n L H G w a) (h : qop P T rw L H o k = some r) :
    ∃ s v, k s = some r ∧ Rel G (Av Z H G) w s v ∧ ∀ w', (isLoad o.op = true → Agr rw H G w w') → (execOp a.eval o).run P w' = .ok (.value v) w' := by
  have hflat : flatOp P L o k = some r → ∃ s v, k s = some r ∧ Rel G (Av Z H G) w s v ∧ ∀ w', (isLoad o.op = true → Agr rw H G w w') → (execOp a.eval o).run P w' = .ok (.value v) w' := fun h => by
    obtain ⟨s, v, h1, h2, h3⟩ := flatOp_sound hf h
    exact ⟨s, v, h1, rel_of1 h2, fun w' _ => h3 w'⟩
  obtain ⟨dst, op, type, pos, after, guard⟩ := o
  unfold qop at h
  dsimp only at h
  split at h
  case h_1 x =>
    split at h <;> try (cases h; done)
    rename_i s hs
    exact ⟨s, _, h, opS_rel hf hs, fun w' _ => rfl⟩
  case h_2 x =>
    split at h <;> try (cases h; done)
    rename_i s hs
    exact ⟨s, _, h, opS_rel hf hs, fun w' _ => rfl⟩
  case h_3 x =>
    split at h <;> try (cases h; done)
    · rename_i j off hs
      have hv := opS_rel hf hs
      refine ⟨_, _, h, hv, fun w' _ => ?_⟩
      obtain ⟨b, _, hv⟩ := hv
      simp [execOp, hv]
    · rename_i e y off hs
      have hv := opS_rel hf hs
      refine ⟨_, _, h, hv, fun w' _ => ?_⟩
      obtain ⟨b, o, cs, hv, _⟩ := hv
      simp [execOp, hv]
    · rename_i j sz i off hs
      have hv := opS_rel hf hs
      refine ⟨_, _, h, hv, fun w' _ => ?_⟩
      obtain ⟨b, _, _, _, hv⟩ := hv
      simp [execOp, hv]
  case h_4 c x y =>
    split at h <;> try (cases h; done)
    rename_i b hs
    have hb := rel_bool (opS_rel hf hs)
    split at h
    · split at h <;> try (cases h; done)
      rename_i s hs
      exact ⟨s, _, h, opS_rel hf hs, fun w' _ => by simp [execOp, hb, asBool]⟩
    · split at h <;> try (cases h; done)
      rename_i s hs
      exact ⟨s, _, h, opS_rel hf hs, fun w' _ => by simp [execOp, hb, asBool]⟩
  case h_5 t x =>
    have fin : ∀ {s : SV} (_ : k s = some r), (∃ v, Rel1 G (Av Z H G) w s v ∧ ∀ w', Agr rw H G w w' → (Instr.loadAt t (a.eval x)).run P w' = .ok v w') → ∃ s v, k s = some r ∧ Rel G (Av Z H G) w s v ∧ ∀ w', (isLoad (.load t x) = true → Agr rw H G w w') → (execOp a.eval ⟨dst, .load t x, type, pos, after, guard⟩).run P w' = .ok (.value v) w' := by
      rintro s hk ⟨v, h1, h2⟩
      exact ⟨s, v, hk, rel_of1 h1, fun w' ha => by simp [execOp, h2 w' (ha rfl)]⟩
    split at h <;> try (cases h; done)
    · rename_i j off i hs hi
      split at h <;> try (cases h; done)
      rename_i bt cells hj
      split at h <;> try (cases h; done)
      rename_i s hl
      exact fin h (load_box hr (chkAll_look hT hi) (opS_rel hf hs) hj hl)
    · rename_i e y off i hs hi
      split at h <;> try (cases h; done)
      rename_i z hz
      exact fin h (load_elt (chkAll_look hT hi) (opS_rel hf hs) hz)
    · rename_i j sz m off i hs hi
      split at h <;> try (cases h; done)
      rename_i et e xs hj
      split at h <;> try (cases h; done)
      rename_i y hsz hy
      split at h <;> try (cases h; done)
      rename_i z hz
      have := Nat.eq_of_beq_eq_true hsz
      subst this
      exact fin h (load_oelt hr (chkAll_look hT hi) (opS_rel hf hs) hj hy hz)
  case h_6 s x f =>
    split at h <;> try (cases h; done)
    · rename_i j off i hs hi
      split at h <;> try (cases h; done)
      rename_i p hp
      obtain ⟨b, hg, hv⟩ := opS_rel hf hs
      exact ⟨_, .pointer (some ⟨b, off + p.1, none⟩), h, ⟨b, hg, rfl⟩, fun w' _ => by simp [execOp, hv, run_fieldAt (chkAll_look hT hi) hp]⟩
    · rename_i e y off i hs hi
      split at h <;> try (cases h; done)
      rename_i p hp
      obtain ⟨b, o, cs, hv, h2⟩ := opS_rel hf hs
      exact ⟨_, .pointer (some ⟨b, o + (off + p.1), none⟩), h, ⟨b, o, cs, rfl, h2⟩, fun w' _ => by simp [execOp, hv, run_fieldAt (chkAll_look hT hi) hp, Nat.add_assoc]⟩
    · rename_i j sz m off i hs hi
      split at h <;> try (cases h; done)
      rename_i p hp
      obtain ⟨b, n1, c1, hg, hv⟩ := opS_rel hf hs
      exact ⟨_, .pointer (some ⟨b, m * sz + (off + p.1), none⟩), h, ⟨b, n1, c1, hg, rfl⟩, fun w' _ => by simp [execOp, hv, run_fieldAt (chkAll_look hT hi) hp, Nat.add_assoc]⟩
  case h_7 t x ix =>
    split at h <;> try (cases h; done)
    · rename_i e xs kd m i hs hm hi
      split at h <;> try (cases h; done)
      rename_i e' he
      split at h <;> try (cases h; done)
      rename_i hee _
      split at h <;> try (cases h; done)
      rename_i y hy
      have hee := hee.down
      subst hee
      obtain ⟨v, h1, h2⟩ := index_sl (kd := kd) (chkAll_look hT hi) he (opS_rel hf hs) hy
      exact ⟨_, v, h, rel_of1 h1, fun w' _ => by simp [execOp, rel_int (opS_rel hf hm), h2 w']⟩
    · rename_i j kd m i hs hm hi
      split at h <;> try (cases h; done)
      rename_i et e xs e' hj he
      split at h <;> try (cases h; done)
      rename_i hee _
      split at h <;> try (cases h; done)
      rename_i y hy
      have hee := hee.down
      subst hee
      obtain ⟨v, h1, h2⟩ := index_own (kd := kd) hr (chkAll_look hT hi) he hj (opS_rel hf hs) hy
      exact ⟨_, v, h, rel_of1 h1, fun w' _ => by simp [execOp, rel_int (opS_rel hf hm), h2 w']⟩
    · rename_i j off kd m i hs hm hi
      split at h <;> try (cases h; done)
      rename_i hst hb
      have hb := of_decide_eq_true hb
      obtain ⟨b, hg, hv⟩ := opS_rel hf hs
      have hck := chkAll_look hT hi
      refine ⟨_, .pointer (some ⟨b, off + m.toNat * i.el, none⟩), h, ⟨b, hg, rfl⟩, fun w' _ => ?_⟩
      have : ∃ ne ej, P.underlying t = some (.array i.len ne) ∧ P.info? ne = some ej ∧ ej.size = i.el := by
        obtain ⟨d, hu, hrow⟩ := chk_st hck
        have hck' := hck
        unfold chk at hck'
        rw [hu] at hck'
        cases hinf : P.info? t with
        | none => rw [hinf] at hck'; cases hck'
        | some inf =>
          rw [hinf] at hck'
          simp only [Bool.and_eq_true] at hck'
          have hck' := hck'.2
          rw [hst] at hrow
          match d, hck', hrow with
          | .struct fs, hck', _ =>
            simp only [Bool.and_eq_true] at hck'
            obtain ⟨_, hck'⟩ := hck'
            split at hck'
            · simp only [Bool.and_eq_true] at hck'
              have hz := Nat.eq_of_beq_eq_true hck'.2
              have h02 := hb.2
              rw [hz] at h02
              exact (Int.lt_irrefl 0 (Int.lt_of_le_of_lt hb.1 h02)).elim
            · cases hck'
          | .array m' e, hck', _ =>
            simp only [Bool.and_eq_true] at hck'
            obtain ⟨⟨⟨⟨_, h1⟩, _⟩, _⟩, h4⟩ := hck'
            split at h4
            · rename_i ej hej
              exact ⟨e, ej, by rw [← Nat.eq_of_beq_eq_true h1]; exact hu, hej, Nat.eq_of_beq_eq_true h4⟩
            · cases h4
      obtain ⟨ne, ej, h1, h2, h3⟩ := this
      simp [execOp, rel_int (opS_rel hf hm), hv, Instr.indexAt, asIntOf, run_underlying h1, sizeOf, typeInfo, h2, hb.1, hb.2, add_plain, Instr.sureAddr, h3]
    · rename_i j sz lo mm kd m i hs hm hi
      split at h <;> try (cases h; done)
      rename_i e' he
      split at h <;> try (cases h; done)
      rename_i hsz hb
      have hb := of_decide_eq_true hb
      have hsz := Nat.eq_of_beq_eq_true hsz
      subst hsz
      obtain ⟨g, q, c, hg, hv, h1, h2, h3⟩ := opS_rel hf hs
      have hmm : 0 < mm := Int.ofNat_lt.1 (Int.lt_of_le_of_lt hb.1 hb.2)
      obtain ⟨b, N, c', rfl, h4, rfl⟩ := h3 hmm
      refine ⟨_, .pointer (some ⟨b, (lo + m.toNat) * e'.n + 0, none⟩), h, ⟨b, N, c', hg, rfl⟩, fun w' _ => ?_⟩
      have := run_indexAt_sl (P := P) (kd := kd) (chkAll_look hT hi) he w' b (lo * e'.n) mm c m hb.1 hb.2
      simp [execOp, rel_int (opS_rel hf hm), hv, this, Nat.add_mul]
  case h_8 x m =>
    split at h <;> try (cases h; done)
    rename_i l hs
    split at h <;> try (cases h; done)
    rename_i s hl
    obtain ⟨vs, hv, hal⟩ := opS_rel hf hs
    obtain ⟨v, h1, h2⟩ := all2_getL hal m s hl
    exact ⟨s, v, h, rel_of1 h2, fun w' _ => by simp [execOp, hv, Instr.extract, h1]⟩
  case h_9 t parts =>
    split at h <;> try (cases h; done)
    rename_i i hi
    split at h <;> try (cases h; done)
    rename_i cs hzs hfl
    split at h <;> try (cases h; done)
    rename_i x hjn
    simp only [Bool.and_eq_true] at hzs
    obtain ⟨us', h1, h2⟩ := fillS_rel hr hf (us := (zc i.ty).toArray) hfl (by simpa using split_rel (zc_rd (t := i.ty)))
    obtain ⟨v1, v2, h3, h4, h5⟩ := join_rd hjn h2
    match v2, h5 with
    | [], _ =>
      rw [List.append_nil] at h3
      subst h3
      refine ⟨_, mkV i.ty us'.toList, h, ⟨_, h4, rfl⟩, fun w' _ => ?_⟩
      have hb : P.built t (parts.map fun p => (p.1, a.eval p.2)).toList = some us' := by
        rw [chk_built (chkAll_look hT hi) hzs.1 hzs.2, ← h1]
        simp
      have := run_build (P := P) w' t (parts.map fun p => (p.1, a.eval p.2)) us' hb
      simp [execOp, this, mkV, hzs.2]
  case h_10 f caps =>
    split at h <;> try (cases h; done)
    rename_i l hl
    split at h <;> try (cases h; done)
    rename_i js hj
    obtain ⟨bs, h1, h2⟩ := boxIds_rel hj (allS_rel hf hl)
    refine ⟨_, .func (.func f) #[] (bs.map fun b => .pointer (some ⟨b, 0, none⟩)).toArray, h, ⟨bs, h1, rfl⟩, fun w' _ => ?_⟩
    rw [← h2]
    obtain ⟨cl⟩ := caps
    simp [execOp, Instr.makeFunc]
  case h_11 x t =>
    split at h <;> try (cases h; done)
    · rename_i e xs i hs hi
      split at h <;> try (cases h; done)
      rename_i e' he
      obtain ⟨cs, hrd, hv⟩ := opS_rel hf hs
      obtain ⟨p, m, c, css, rfl, hlen, _⟩ := hrd
      have hv : a.eval x = .slice p m c := hv
      refine ⟨_, .int .i64 m, h, ⟨[_], rfl, by rw [hlen]; rfl⟩, fun w' _ => ?_⟩
      simp [execOp, resolve, invoke, builtin, hv, run_len_sl (chkAll_look hT hi) he]
    · rename_i i hs hi
      split at h <;> try (cases h; done)
      rename_i e' he
      have hv : a.eval x = .slice none 0 0 := opS_rel hf hs
      refine ⟨_, .int .i64 0, h, ⟨[_], rfl, rfl⟩, fun w' _ => ?_⟩
      simp [execOp, resolve, invoke, builtin, hv, run_len_sl (chkAll_look hT hi) he]
    · rename_i j i hs hi
      split at h <;> try (cases h; done)
      rename_i et e xs e' hj he
      have hv := opS_rel hf hs
      obtain ⟨css, ho, _⟩ := hr.items j _ _ hj hv
      refine ⟨_, .int .i64 xs.length, h, ⟨[_], rfl, rfl⟩, fun w' _ => ?_⟩
      rcases own_form' ho with ⟨h1, h2⟩ | ⟨b, c, h1⟩
      · simp [execOp, resolve, invoke, builtin, h1, h2, run_len_sl (chkAll_look hT hi) he]
      · simp [execOp, resolve, invoke, builtin, h1, run_len_sl (chkAll_look hT hi) he]
    · rename_i j sz lo n i hs hi
      split at h <;> try (cases h; done)
      rename_i e' he
      obtain ⟨g, q, c, hg, hv, _⟩ := opS_rel hf hs
      refine ⟨_, .int .i64 n, h, ⟨[_], rfl, rfl⟩, fun w' _ => ?_⟩
      simp [execOp, resolve, invoke, builtin, hv, run_len_sl (chkAll_look hT hi) he]
    · rename_i e0 xs i hs hi
      split at h <;> try (cases h; done)
      rename_i e' he
      obtain ⟨p, hrd, hv⟩ := opS_rel hf hs
      refine ⟨_, .int .i64 xs.length, h, ⟨[_], rfl, rfl⟩, fun w' _ => ?_⟩
      simp [execOp, resolve, invoke, builtin, hv, run_len_sl (chkAll_look hT hi) he]
  case h_12 t x lo hi =>
    split at h <;> try (cases h; done)
    · rename_i e xs i hs hti
      split at h <;> try (cases h; done)
      rename_i e' l hh he hl hhh
      split at h <;> try (cases h; done)
      rename_i hee _
      split at h <;> try (cases h; done)
      rename_i hb
      have hb := of_decide_eq_true hb
      have hee := hee.down
      subst hee
      obtain ⟨v, h1, h2⟩ := slice_sl (chkAll_look hT hti) he (opS_rel hf hs) (slB_rel hf hl) (slB_rel hf hhh) hb
      exact ⟨_, v, h, rel_of1 h1, fun w' _ => by simp [execOp, h2 w']⟩
    · rename_i j i hs hti
      split at h <;> try (cases h; done)
      rename_i et e xs e' hj he
      split at h <;> try (cases h; done)
      rename_i l hh hl hhh hsz
      split at h <;> try (cases h; done)
      rename_i hb
      have hb := of_decide_eq_true hb
      have hsz := Nat.eq_of_beq_eq_true hsz
      have hx := opS_rel hf hs
      obtain ⟨css, ho, _⟩ := hr.items j _ _ hj hx
      have hform : ∃ q c, a.eval x = .slice q xs.length c ∧ xs.length ≤ c ∧ c ≤ maxLen ∧ (0 < xs.length → ∃ b, q = some ⟨b, 0, none⟩) := by
        rcases ho.2 with ⟨e1, e2⟩ | ⟨g, cap, cur, e1, _, _, e4, e5, _⟩
        · exact ⟨none, 0, by rw [e1, e2], by omega, by unfold maxLen; omega, fun h0 => by omega⟩
        · exact ⟨_, cap, e1, e4, e5, fun _ => ⟨g, rfl⟩⟩
      obtain ⟨q, c, hv, hc1, hc2, hq⟩ := hform
      refine ⟨_, sliced q l.toNat hh.toNat c e.n, h, ⟨_, _, _, hx, rfl, by omega, by omega, fun h0 => ?_⟩, fun w' _ => ?_⟩
      · obtain ⟨b, rfl⟩ := hq (by omega)
        refine ⟨b, xs.length, c, hv, by omega, ?_⟩
        rw [if_neg (by omega)]
        simp [add_plain]
      · have := run_win (P := P) (chkAll_look hT hti) he w' q xs.length c (slB_rel hf hl) (slB_rel hf hhh) hb hc1
        rw [← hsz] at this
        simp [execOp, hv, this]
    · rename_i j sz b0 n i hs hti
      split at h <;> try (cases h; done)
      rename_i e' he
      split at h <;> try (cases h; done)
      rename_i l hh hl hhh hsz
      split at h <;> try (cases h; done)
      rename_i hb
      have hb := of_decide_eq_true hb
      have hsz := Nat.eq_of_beq_eq_true hsz
      subst hsz
      obtain ⟨g, q, c, hg, hv, hc1, hc2, h3⟩ := opS_rel hf hs
      obtain ⟨b1, b2, b3⟩ := hb
      have z1 : hh.toNat - l.toNat ≤ c - l.toNat := by clear h3; omega
      have z2 : c - l.toNat ≤ maxLen := by clear h3; omega
      have z3 : 0 < hh.toNat - l.toNat → 0 < n ∧ l.toNat + (hh.toNat - l.toNat) ≤ n ∧ c ≠ l.toNat := by clear h3; omega
      refine ⟨_, sliced q l.toNat hh.toNat c e'.n, h, ⟨g, _, _, hg, rfl, z1, z2, fun h0 => ?_⟩, fun w' _ => ?_⟩
      · obtain ⟨y1, y2, y3⟩ := z3 h0
        obtain ⟨b, N, c', rfl, h4, rfl⟩ := h3 y1
        refine ⟨b, N, c', rfl, by clear h3; omega, ?_⟩
        rw [if_neg y3]
        simp [add_plain, Nat.add_mul]
      · have := run_win (P := P) (chkAll_look hT hti) he w' q n c (slB_rel hf hl) (slB_rel hf hhh) ⟨b1, b2, b3⟩ hc1
        simp [execOp, hv, this]
  case h_13 x y _ =>
    split at h <;> try (cases h; done)
    rename_i kd p kd' q hp hq
    split at h <;> try (cases h; done)
    rename_i hee _
    have hee := hee.down
    injection hee with hee
    subst hee
    refine ⟨_, .int kd (if q > p then q else p), h, ⟨[_], rfl, rfl⟩, fun w' _ => ?_⟩
    simp [execOp, resolve, invoke, builtin, rel_int (opS_rel hf hp), rel_int (opS_rel hf hq), Builtin.max_, Builtin.max2]
  case h_14 x y _ =>
    split at h <;> try (cases h; done)
    rename_i kd p kd' q hp hq
    split at h <;> try (cases h; done)
    rename_i hee _
    have hee := hee.down
    injection hee with hee
    subst hee
    refine ⟨_, .int kd (if q < p then q else p), h, ⟨[_], rfl, rfl⟩, fun w' _ => ?_⟩
    simp [execOp, resolve, invoke, builtin, rel_int (opS_rel hf hp), rel_int (opS_rel hf hq), Builtin.min_, Builtin.min2]
  case h_15 op t x y ty =>
    split at h
    · exact hflat h
    · rename_i b hb
      have ev : ∀ (A : Option Addr) (l c : Nat) (e : TypeId), a.eval x = .slice A l c → P.underlying t = some (.slice e) → ∀ w', (execOp a.eval ⟨dst, .binOp op t x y ty, type, pos, after, guard⟩).run P w' = .ok (.value (.bool (if A.isNone then b else !b))) w' := by
        intro A l c e hx hu w'
        unfold nilOf at hb
        split at hb <;> try (cases hb; done)
        · injection hb with hb
          subst hb
          unfold execOp
          simp only [hx, Sem.run_bind]
          rw [show a.eval (.const (.slice none 0 0)) = .slice none 0 0 from rfl]
          simp only [eqGuard_at_slice, Sem.run_pure, Result.andThen_ok, run_eql_slice_nil w' t e A l c hu]
          cases A <;> rfl
        · injection hb with hb
          subst hb
          unfold execOp
          simp only [hx, Sem.run_bind]
          rw [show a.eval (.const (.slice none 0 0)) = .slice none 0 0 from rfl]
          simp only [eqGuard_at_slice, Sem.run_pure, Result.andThen_ok, run_neq_slice_nil w' t e A l c hu]
          cases A <;> rfl
      have nk : ∀ {α : Type} {xs : List α} {A : Option Addr} {l c : Nat} {e : TypeId}, nilK xs b k = some r → a.eval x = .slice A l c → (xs ≠ [] → A.isNone = false) → P.underlying t = some (.slice e) →
          ∃ s v, k s = some r ∧ Rel G (Av Z H G) w s v ∧ ∀ w', (isLoad (.binOp op t x y ty) = true → Agr rw H G w w') → (execOp a.eval ⟨dst, .binOp op t x y ty, type, pos, after, guard⟩).run P w' = .ok (.value v) w' := by
        intro α xs A l c e hk hx hne hu
        have hev := ev A l c e hx hu
        unfold nilK at hk
        split at hk
        · obtain ⟨k1, k2⟩ := both_some hk
          cases hA : A.isNone with
          | true => exact ⟨_, .bool b, k1, ⟨[_], rfl, rfl⟩, fun w' _ => by rw [hev w', hA]; rfl⟩
          | false => exact ⟨_, .bool (!b), k2, ⟨[_], rfl, rfl⟩, fun w' _ => by rw [hev w', hA]; rfl⟩
        · have hA := hne (by simp)
          exact ⟨_, .bool (!b), hk, ⟨[_], rfl, rfl⟩, fun w' _ => by rw [hev w', hA]; rfl⟩
      split at h <;> try (cases h; done)
      · rename_i e xs i hs hi
        split at h <;> try (cases h; done)
        rename_i e' he
        obtain ⟨hu, _⟩ := chk_slice (chkAll_look hT hi) he
        obtain ⟨cs, hrd, hv⟩ := opS_rel hf hs
        obtain ⟨p, n, c, css, rfl, h1, h2, h3, h4, h5⟩ := hrd
        refine nk h hv (fun hne => ?_) hu
        have : 0 < n := by
          rw [← h1]
          cases xs with
          | nil => exact absurd rfl hne
          | cons => simp
        obtain ⟨b, off, rfl, _⟩ := h5 this
        rfl
      · rename_i i hs hi
        split at h <;> try (cases h; done)
        rename_i e' he
        obtain ⟨hu, _⟩ := chk_slice (chkAll_look hT hi) he
        have hv : a.eval x = .slice none 0 0 := opS_rel hf hs
        exact ⟨_, .bool b, h, ⟨[_], rfl, rfl⟩, fun w' _ => by rw [ev none 0 0 _ hv hu w']; rfl⟩
      · rename_i j i hs hi
        split at h <;> try (cases h; done)
        rename_i et e xs e' hj he
        obtain ⟨hu, _⟩ := chk_slice (chkAll_look hT hi) he
        obtain ⟨css, ho, ha2, hn0⟩ := hr.items j _ _ hj (opS_rel hf hs)
        rcases ho.2 with ⟨e1, e2⟩ | ⟨g, cap, cur, e1, _⟩
        · refine nk h e1 (fun hne => ?_) hu
          exact absurd (List.eq_nil_of_length_eq_zero e2) hne
        · exact nk h e1 (fun _ => rfl) hu
  case h_16 => exact hflat h
  case h_17 => exact hflat h
  case h_18 t x lo hi mx =>
    split at h <;> try (cases h; done)
    rename_i e xs i hs hti
    split at h <;> try (cases h; done)
    rename_i e' l hh m he hl hhh hm
    split at h <;> try (cases h; done)
    rename_i hq hee _
    split at h <;> try (cases h; done)
    rename_i hb
    have hb := of_decide_eq_true hb
    have hee := hee.down
    subst hee
    have h2 := (slB_rel hf hhh).resolve_left (by simp)
    have h3 := (slB_rel hf hm).resolve_left (by simp)
    obtain ⟨v, h1, h1c, h2⟩ := slice3_sl (chkAll_look hT hti) he (opS_rel hf hs) (slB_rel hf hl) h2 h3 hb
    split at h
    · rename_i _ hm
      exact ⟨_, v, h, h1c (of_decide_eq_true hm), fun w' _ => by simp only [execOp, Option.map_some, Sem.run_bind, Sem.run_map]; have := h2 w'; simp only [Option.map_some] at this; simp [this]⟩
    exact ⟨_, v, h, rel_of1 h1, fun w' _ => by simp only [execOp, Option.map_some, Sem.run_bind, Sem.run_map]; have := h2 w'; simp only [Option.map_some] at this; simp [this]⟩
  case h_19 x y z u _ =>
    split at h <;> try (cases h; done)
    rename_i p q p' q' hp hq hp' hq'
    refine ⟨_, .int .i64 (max4 p q p' q'), h, ⟨[_], rfl, rfl⟩, fun w' _ => ?_⟩
    simp [execOp, resolve, invoke, builtin, rel_int (opS_rel hf hp), rel_int (opS_rel hf hq), rel_int (opS_rel hf hp'), rel_int (opS_rel hf hq'), Builtin.max_, Builtin.max2, max4]
  case h_20 => cases h
end
end Go.Proofs.YtpiabmjipgfjjaaDoor

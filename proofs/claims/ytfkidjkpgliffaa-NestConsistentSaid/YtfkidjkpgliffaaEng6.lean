/- More operations: a slice against nil; the append of a slice that is only read. -/
import Derived.Test.YtfkidjkpgliffaaEng5
import Derived.Lib.LazyBuf
namespace Go.Proofs.Ytfkidjkpgliffaa
open Go.RowKit
theorem Ce.grown {u : Nat} {w w' : World} {b off : Nat} {cs : List Value} {row : Option Nat} (h : Ce u w b off cs) (hg : w.grownBy w' row) (hr : ∀ k, row = some k → u ≤ k) : Ce u w' b off cs := h.keep hg.size fun k hk => hg.block k (Nat.lt_of_lt_of_le hk h.le) (fun e => by have := hr k e.symm; omega)
section
variable {P : Program} {a : Act} {w : World}
theorem eqnil1 {N : Act → World → Prop} {Q : Exit → Act → World → Prop} {o : Oper} {n t e ty : Nat} {L : Sl} {x : Operand} {A : Option Addr} {m c : Nat} {b : Bool} (ts : List Nat) (L' : Sl) (hs : St n L a)
    (hop : o.op = .binOp .eql t x (.const (.slice none 0 0)) ty) (hx : envOf L x = .slice A m c) (ht : P.underlying t = some (.slice e)) (hb : A.isNone = b) (hp : putK n L o.dst (.bool b) ts = some L')
    (h : ∀ a', St n L' a' → N a' w) : o.upon P a N Q ((execOp (envOf L) o).run P w) := by
  have : (execOp (envOf L) o).run P w = .ok (.value (.bool b)) w := by
    unfold execOp
    simp only [hop, hx, Sem.run_bind]
    rw [show envOf L (.const (.slice none 0 0)) = .slice none 0 0 from rfl]
    simp only [eqGuard_at_slice, Sem.run_pure, Result.andThen_ok, run_eql_slice_nil w t e A m c ht, hb]
  rw [this]
  exact h _ (hs.putK_ hp)
theorem append1A {N : Act → World → Prop} {Q : Exit → Act → World → Prop} {o : Oper} {n : Nat} {L : Sl} {base t e size bytes m q c : Nat} {v : Value} {A : Addr} {xs cs : List Value} (sx : Operand × Operand) (ts : List Nat) (L' : Value → Sl) (hs : St n L a)
    (hop : o.op = .call { callee := .builtin .append, args := #[sx.1, sx.2], argTypes := #[t, t] }) (h1 : envOf L sx.1 = v) (h2 : envOf L sx.2 = .slice (some A) m c) (hp : ∀ v, putK n L o.dst v ts = some (L' v))
    (hE : Elem P t e size bytes) (hown : w.ownsRow base e size v q xs) (hl : cs.length = m * size) (hcs : ∀ j u, cs[j]? = some u → w.cell? (A.add j) = some u) (hc1 : ∀ u ∈ cs, u.oneCell' = true)
    (h63 : q + m ≤ maxLen) (hbytes : (q + m) * bytes ≤ 140737488355328) (hbase : base ≤ w.heap.size)
    (h : ∀ v' a' w', w'.ownsRow base e size v' (q + m) (xs ++ cs) → w.grownBy w' v.ownBlock → St n (L' v') a' → N a' w') : o.upon P a N Q ((execOp (envOf L) o).run P w) := by
  obtain ⟨ht, hsz, inf, z, hi, hz, h3, h4, h5⟩ := hE
  obtain ⟨v', w', hrun, g1, g2, _⟩ := run_append_own (P := P) w base t o.type e inf z size bytes ht hi hz h3 h4 h5 hsz v q xs hown A m c cs hl hcs hc1 h63 hbytes hbase
  have : (execOp (envOf L) o).run P w = .ok (.value v') w' := by
    unfold execOp
    simp only [hop, resolve, invoke, builtin, Sem.run_bind, Sem.run_pure, Result.andThen_ok, List.map_toArray, List.map_cons, List.map_nil, h1, h2, hrun]
  rw [this]
  exact h _ _ _ g1 g2 (hs.putK_ (hp v'))
end
/-- A slice that is read: nothing, or from some address on. -/
theorem RdU.src {u : Nat} {w : World} {size n c : Nat} {A : Option Addr} {xs : List Value} (h : RdU u w size (.slice A n c) n xs) : (n = 0 ∧ xs = []) ∨ ∃ b off, A = some ⟨b, off, none⟩ ∧ Ce u w b off xs ∧ 0 < n := by
  obtain ⟨_, A', c', h1, h2, h3, h4, h5⟩ := h
  injection h1 with hA _ _
  subst hA
  rcases Nat.eq_zero_or_pos n with h0 | h0
  · subst h0
    left
    exact ⟨rfl, List.eq_nil_of_length_eq_zero (by rw [h4, Nat.zero_mul])⟩
  · right
    obtain ⟨b, off, h6, h7⟩ := h5 h0
    exact ⟨b, off, h6, h7, h0⟩
theorem add_pl (b off j : Nat) : (⟨b, off, none⟩ : Addr).add j = ⟨b, off + j, none⟩ := by unfold Addr.add; split <;> simp_all
end Go.Proofs.Ytfkidjkpgliffaa

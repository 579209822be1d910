/- More on blocks behind a call. -/
import Derived.Test.YtpiabmjipgfjjaaDoorBase
namespace Go.Proofs.YtpiabmjipgfjjaaDoor
open Go.RowKit
theorem box1 {w w1 : World} {t1 : TypeId} {c1 : Array Value} (hb : Below (w.alloc (.cells c1 t1)).heap.size (w.alloc (.cells c1 t1)) w1) : Blk w1 w.heap.size t1 c1 ∧ w.heap.size + 1 ≤ w1.heap.size ∧ Below w.heap.size w w1 :=
  boxes1 (by simpa using hb)
theorem box2 {w w1 : World} {t1 t2 : TypeId} {c1 c2 : Array Value} (hb : Below ((w.alloc (.cells c1 t1)).alloc (.cells c2 t2)).heap.size ((w.alloc (.cells c1 t1)).alloc (.cells c2 t2)) w1) :
    Blk w1 w.heap.size t1 c1 ∧ Blk w1 (w.heap.size + 1) t2 c2 ∧ w.heap.size + 2 ≤ w1.heap.size ∧ Below w.heap.size w w1 :=
  boxes2 (by simpa using hb)
/-- A later world: 'w2' has all blocks of 'w1' as they were. -/
theorem later {w w1 w2 : World} (h1 : Below w.heap.size w w1) (h2 : Below w1.heap.size w1 w2) : Below w.heap.size w w2 := h1.trans (h2.mono h1.size)

/-- 'append(out, x, ..)' inside a region that draws its order. -/
theorem step_append_new {P : Program} {ops : Array Oper} {o : Oper} {a : Act} {K : Act → World → Prop} {Q : Exit → Act → World → Prop} {E : Prop} {w0 wB : World} {base t e size bytes n m : Nat} {v : Value} {xs cs : List Value} {s x : Operand}
    (hE : Elem P t e size bytes) (hown : w0.ownsRow base e size v n xs) (hb : Below base wB w0) (hbase : base ≤ w0.heap.size) (hl : cs.length = m * size) (h1 : ∀ u ∈ cs, u.oneCell' = true)
    (h63 : n + m ≤ maxLen) (hbytes : (n + m) * bytes ≤ 140737488355328) (hgd : o.guard = none) (ho : o.op = .call { callee := .builtin .append, args := #[s, x], argTypes := #[t, t] })
    (hs : a.eval s = v) (hx : a.eval x = .slice (some ⟨w0.heap.size, 0, none⟩) m m)
    (h : ∀ v' w', w'.ownsRow base e size v' (n + m) (xs ++ cs) → Below base wB w' → K (a.put o.dst v') w') :
    if Region.wanted o (yielded ops a.tmps) = true then Oper.wp P o a (w0.alloc (.cells cs.toArray e)) K Q else E := by
  have hw : Region.wanted o (yielded ops a.tmps) = true := by simp [Region.wanted, hgd]
  rw [if_pos hw]
  obtain ⟨ht, hsz, i, z, hi, hz, h3, h4, h5⟩ := hE
  refine wp_append_own _ s x t ho base e i z size bytes ht hi hz h3 h4 h5 hsz v n xs hs (hown.alloc _) ⟨w0.heap.size, 0, none⟩ m m cs hx hl ?_ h1 h63 hbytes (by simp; omega) ?_
  · intro j u hu
    have : (Addr.add ⟨w0.heap.size, 0, none⟩ j) = ⟨w0.heap.size, j, none⟩ := by unfold Addr.add; split <;> simp_all
    rw [this, World.cell?_alloc_at _ _ _ _ rfl]
    simpa using hu
  · intro v' w' h2 h3 _
    exact h v' w' h2 ((hb.alloc hbase _).grown h3 (by simp; omega) (fun k hk => (hown.lt k hk).1))
/-- A slice literal's block is the call's own row. -/
theorem own_lit {w : World} {base e size m : Nat} {cs : List Value} (hb : base ≤ w.heap.size) (hl : cs.length = m * size) (hm : m ≤ maxLen) : (w.alloc (.cells cs.toArray e)).ownsRow base e size (.slice (some ⟨w.heap.size, 0, none⟩) m m) m cs :=
  ⟨hl, .inr ⟨w.heap.size, m, cs.toArray, rfl, hb, heap_alloc_new w _, Nat.le_refl _, hm, by simpa using hl, by simp [← hl]⟩⟩
theorem own_far {w w' : World} {base e size n : Nat} {v : Value} {xs : List Value} (h : w.ownsRow base e size v n xs) (hb : Below w.heap.size w w') : w'.ownsRow base e size v n xs := by
  refine ⟨h.1, ?_⟩
  rcases h.2 with h2 | ⟨g, cap, cur, hv, hg, hh, r⟩
  · exact .inl h2
  · exact .inr ⟨g, cap, cur, hv, hg, (hb.block g (Array.getElem?_eq_some_iff.1 hh).1).trans hh, r⟩

theorem below_of_drew {w w' : World} (h : Below w.drew.heap.size w.drew w') : Below w.heap.size w w' := ⟨h.os, h.tape, h.output, h.size, h.block⟩
end Go.Proofs.YtpiabmjipgfjjaaDoor

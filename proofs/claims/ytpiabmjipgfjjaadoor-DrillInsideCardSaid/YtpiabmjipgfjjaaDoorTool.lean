/- Tools: the table of names, tool.Valid. -/
import Derived.Test.YtpiabmjipgfjjaaDoorToolGood
namespace Go.Proofs.YtpiabmjipgfjjaaDoor
open Go.RowKit Go.Maps

/-- The package's table of names lies in memory as its text lays it. -/
def Nms (w : World) : Prop := ∃ bm n, w.cell? ⟨0, 0, none⟩ = some (.map (some bm)) ∧ 0 < w.heap.size ∧ w.ownsMap (H := Unit) Tryd.prog 3 (plainElem Tryd.prog 9) bm n Rows.laid_swarf_tool_names
theorem Nms.below {w w' : World} (h : Nms w) (hb : Below w.heap.size w w') : Nms w' := by
  obtain ⟨bm, n, hc, hg, hm⟩ := h
  have hlt := hm.lt
  obtain ⟨es, clock, hh, F, hs, hD⟩ := hm
  exact ⟨bm, n, (hb.cell (p := ⟨0, 0, none⟩) hg).trans hc, Nat.lt_of_lt_of_le hg hb.size, es, clock, (hb.block bm hlt).trans hh, F, hs, hD⟩
theorem keyed_int : Keyed Tryd.prog 3 := int_keyed Tryd.underlying3
theorem zero_str (w : World) : (zeroValue 9).run Tryd.prog w = .ok (.string ⟨#[]⟩) w := by kernel_rfl
theorem at_names (k : Int) : (k = 1 ∨ k = 2 ∨ k = 3 ∨ k = 4) ∧ (∃ l, l ≠ [] ∧ (Rows.laid_swarf_tool_names (H := Unit)).atKey (.int .i64 k) (.lit (.string [])) = .lit (.string l)) ∨
    (k < 1 ∨ 4 < k) ∧ (Rows.laid_swarf_tool_names (H := Unit)).atKey (.int .i64 k) (.lit (.string [])) = .lit (.string []) := by
  by_cases h1 : k = 1
  · subst h1; exact .inl ⟨by omega, _, by simp, rfl⟩
  by_cases h2 : k = 2
  · subst h2; exact .inl ⟨by omega, _, by simp, rfl⟩
  by_cases h3 : k = 3
  · subst h3; exact .inl ⟨by omega, _, by simp, rfl⟩
  by_cases h4 : k = 4
  · subst h4; exact .inl ⟨by omega, _, by simp, rfl⟩
  · refine .inr ⟨by omega, ?_⟩
    have e1 : ¬ 1 = k := fun h => h1 h.symm
    have e2 : ¬ 2 = k := fun h => h2 h.symm
    have e3 : ¬ 3 = k := fun h => h3 h.symm
    have e4 : ¬ 4 = k := fun h => h4 h.symm
    simp [Rows.laid_swarf_tool_names, DataW.atKey, Lit.sameKey, List.find?, e1, e2, e3, e4]
theorem Nms.look {w : World} (h : Nms w) (k : Int) (hk : i64 k) : ∃ bm s, w.cell? ⟨0, 0, none⟩ = some (.map (some bm)) ∧ (Instr.lookup 71 (.map (some bm)) (.int .i64 k) false).run Tryd.prog w = .ok (.string s) w ∧
    ((1 ≤ k ∧ k ≤ 4) ∧ s.data.toList ≠ [] ∨ (k < 1 ∨ 4 < k) ∧ s.data.toList = []) := by
  obtain ⟨bm, n, hc, hg, hm⟩ := h
  obtain ⟨v, ps, hrun, hv⟩ := hm.lookup keyed_int Tryd.underlying71 (zero_str w) (plainElem_string Tryd.underlying9 (s := ⟨#[]⟩) (by decide)) (keyOf_int_mk (a := k) Tryd.underlying3 (WalkArith.wf_i64 hk))
  obtain ⟨s, rfl, hz, _⟩ := plainElem_string_inv Tryd.underlying9 hv
  refine ⟨bm, s, hc, hrun, ?_⟩
  simp only [Prod.mk.injEq] at hz
  rcases at_names k with ⟨hk', l, hl, he⟩ | ⟨hk', he⟩
  · rw [he] at hz
    have := hz.1
    simp only [DataW.lit.injEq, Lit.string.injEq] at this
    exact .inl ⟨by omega, by rw [← this]; exact hl⟩
  · rw [he] at hz
    have := hz.1
    simp only [DataW.lit.injEq, Lit.string.injEq] at this
    exact .inr ⟨hk', this.symm⟩

theorem kind_yes (k : Int) (w : World) (h : Nms w) (h1 : 1 ≤ k) (h2 : k ≤ 4) : Calls Tryd.prog 38 #[.int .i64 k] w fun e w' => ∃ s, e = .returned (.string s) ∧ s.data.toList ≠ [] ∧ w = w' := by
  obtain ⟨bm, s, hc, hl, hs⟩ := h.look k ⟨by omega, by omega⟩
  have hs' : s.data.toList ≠ [] := by rcases hs with h | h <;> first | exact h.2 | omega
  have HS := Lib.hid hs'
  clear hs hs'
  go_enter Tryd.func38, Tryd.ntmps38
  go_wp2
  go_ret
  exact ⟨s, rfl, HS.out, rfl⟩
theorem kind_no (k : Int) (w : World) (h : Nms w) (hk : i64 k) (h1 : k < 1 ∨ 4 < k) : Calls Tryd.prog 38 #[.int .i64 k] w fun e w' => ∃ s, e = .returned (.string s) ∧ s.data.toList = [] ∧ w = w' := by
  obtain ⟨bm, s, hc, hl, hs⟩ := h.look k hk
  have hs' : s.data.toList = [] := by rcases hs with h | h <;> first | exact h.2 | omega
  have HS := Lib.hid hs'
  clear hs hs'
  go_enter Tryd.func38, Tryd.ntmps38
  go_wp2
  go_ret
  exact ⟨s, rfl, HS.out, rfl⟩

def ValidPost (t : Tl) (w : World) (e : Ending) (w' : World) : Prop := e = .returned (.int .i64 (if t.good then 0 else 1)) ∧ Below w.heap.size w w'
theorem v_f {t : Tl} (h : ¬ t.Good) : (if t.good then (0 : Int) else 1) = 1 := by rw [good_f h]; rfl
theorem v_t {t : Tl} (h : t.Good) : (if t.good then (0 : Int) else 1) = 0 := by rw [good_t h]; rfl
theorem str_ne {s : ByteArray} (h : s.data.toList ≠ []) : s.toList.isEmpty = false := by
  rw [ByteArray.toList_eq] <;> simp_all
end Go.Proofs.YtpiabmjipgfjjaaDoor

/- Bore, the program's and the reference's, in every case: one post for both. -/
import Derived.Test.YtpiabmjipgfjjaaDoorRBore
namespace Go.Proofs.YtpiabmjipgfjjaaDoor
open Go.RowKit
def boreM (x y c depth n top fd plu : Int) (N : Nat) : List Mv :=
  [⟨2, x + c, y, 0, 0, 0, plu⟩] ++ (List.range N).map (fun i : Nat => (⟨4, qx x c ((i + 1) % 4), qy y c ((i + 1) % 4), zat depth n ((i : Int) + 1), x, y, fd⟩ : Mv)) ++ [⟨4, x + c, y, -depth, x, y, fd⟩, ⟨2, x, y, -depth, 0, 0, fd⟩, ⟨1, x, y, top, 0, 0, 0⟩]
theorem boreM_len (x y c depth n top fd plu : Int) (N : Nat) : (boreM x y c depth n top fd plu N).length = N + 4 := by simp [boreM]
theorem boreM_cs (x y c depth n top fd plu : Int) : boreC x y c depth n top fd plu = (boreM x y c depth n top fd plu (4 * n).toNat).flatMap Mv.cs := by
  simp only [boreC, boreM, List.flatMap_append, List.flatMap_cons, List.flatMap_nil, List.append_nil, List.flatMap_map, arcs]
  simp only [Mv.cs, mvc, List.append_assoc]
  rfl
def boreNo (t : Tl) (depth : Int) : Nat := ((depth + t.stp - 1) / t.stp).toNat
/-- The moves of Bore: none where there is an error. -/
def boreR (t : Tl) (x y radius top depth : Int) : List Mv :=
  if boreErr t x y radius top depth = 0 then boreM x y (radius - t.rad) depth (boreNo t depth) top t.fd t.plu (4 * boreNo t depth) else []
def BorePost (t : Tl) (x y radius top depth : Int) (w : World) (e : Ending) (w' : World) : Prop :=
  ∃ v, e = .returned (.tuple #[v, .int .i64 (boreErr t x y radius top depth)]) ∧ Rd w' 7 v (boreR t x y radius top depth).length ((boreR t x y radius top depth).flatMap Mv.cs) ∧ Below w.heap.size w w'
theorem boreErr0 {t : Tl} {x y radius top depth : Int} (h : boreErr t x y radius top depth = 0) :
    (!t.good || t.kind != 1 || decide (top < 0) || decide (radius < 1) || decide (depth < 1)) = false ∧ (decide (t.flu < depth) || !t.mills radius) = false ∧ outB x y top depth (radius - t.rad) = false ∧ ¬ 4 * ((depth + t.stp - 1) / t.stp) + 4 > 20000 := by
  unfold boreErr at h
  split at h
  · simp at h
  · rename_i h1
    split at h
    · simp at h
    · rename_i h2
      split at h
      · simp at h
      · rename_i h3
        split at h
        · simp at h
        · rename_i h4
          exact ⟨by simpa using h1, by simpa using h2, by simpa using h3, by simpa using h4⟩
/-- What an error-free call knows. -/
structure BoreOk (t : Tl) (x y radius top depth : Int) : Prop where
  good : t.good = true
  kind : (t.kind != 1) = false
  top_ : 0 ≤ top
  rad_ : 1 ≤ radius
  dep_ : 1 ≤ depth
  flu : depth ≤ t.flu
  mills : t.mills radius = true
  bx : insB x = true
  by_ : insB y = true
  tp : insB top = true
  dp : insB depth = true
  x1 : insB (x + (radius - t.rad)) = true
  x2 : insB (x - (radius - t.rad)) = true
  y1 : insB (y + (radius - t.rad)) = true
  y2 : insB (y - (radius - t.rad)) = true
  few : 4 * ((depth + t.stp - 1) / t.stp) + 4 ≤ 20000
theorem boreOk {t : Tl} {x y radius top depth : Int} (h : boreErr t x y radius top depth = 0) : BoreOk t x y radius top depth := by
  obtain ⟨h1, h2, h3, h4⟩ := boreErr0 h
  simp only [Bool.or_eq_false_iff, Bool.not_eq_false', decide_eq_false_iff_not, outB] at h1 h2 h3
  obtain ⟨⟨⟨⟨a1, a2⟩, a3⟩, a4⟩, a5⟩ := h1
  obtain ⟨⟨⟨⟨⟨⟨⟨b1, b2⟩, b3⟩, b4⟩, b5⟩, b6⟩, b7⟩, b8⟩ := h3
  exact ⟨a1, a2, by omega, by omega, by omega, by omega, h2.2, b1, b2, b3, b4, b5, b6, b7, b8, by omega⟩
theorem boreOk_n {t : Tl} {x y radius top depth : Int} (h : BoreOk t x y radius top depth) : (depth + t.stp - 1) / t.stp = (boreNo t depth : Int) ∧ 1 ≤ (boreNo t depth : Int) ∧ 4 * (boreNo t depth : Int) + 4 ≤ 20000 ∧ t.Good := by
  have hG : t.Good := of_decide_eq_true h.good
  have hs := hG.2.2.2.2.2.2.1
  have h1 : 1 ≤ (depth + t.stp - 1) / t.stp := Int.le_ediv_of_mul_le (by omega) (by have := h.dep_; omega)
  have h2 := h.few
  unfold boreNo
  refine ⟨by omega, by omega, by omega, hG⟩
theorem bore_any (t : Tl) (x y radius top depth : Int) (w : World) (HN : Nms w) (HK : t.ok) (br : i64 radius) (bd : i64 depth) :
    Calls Tryd.prog 12 #[.agg #[.int .i64 x, .int .i64 y], .int .i64 radius, .int .i64 top, .int .i64 depth, t.v] w (BorePost t x y radius top depth w) := by
  by_cases h0 : boreErr t x y radius top depth = 0
  · have hk := boreOk h0
    obtain ⟨hn, hn1, hn4, hG⟩ := boreOk_n hk
    have hm := of_decide_eq_true hk.mills
    have hx := insB_t hk.bx
    have hy := insB_t hk.by_
    obtain ⟨num, kind, rad, flu, hol, stp, fd, plu⟩ := t
    have hG' := hG
    unfold Tl.Good at hG'
    dsimp only at hG' hm
    refine (bore_ok x y radius top depth num kind rad flu hol stp fd plu (boreNo ⟨num, kind, rad, flu, hol, stp, fd, plu⟩ depth) w HN HK (v_t hG) hk.kind hk.top_ hk.rad_ hk.dep_ hk.flu (by omega) (by omega) (by omega) (by omega) (by omega) (by omega) (by omega) hk.mills hk.bx hk.by_ hk.tp hk.dp (by omega) (by omega) (by omega) (by omega) hk.x1 hk.x2 hk.y1 hk.y2 hn hn1 hn4).mono ?_
    rintro e w' ⟨v, rfl, hr, hb⟩
    refine ⟨v, by rw [h0], ?_, hb⟩
    rw [boreR, if_pos h0, boreM_len]
    rw [boreM_cs, show (4 * ((boreNo ⟨num, kind, rad, flu, hol, stp, fd, plu⟩ depth : Nat) : Int)).toNat = 4 * boreNo ⟨num, kind, rad, flu, hol, stp, fd, plu⟩ depth by omega] at hr
    exact hr
  · obtain ⟨num, kind, rad, flu, hol, stp, fd, plu⟩ := t
    have fin : ∀ (e : Ending) (w' : World), (e = .returned (.tuple #[.slice none 0 0, .int .i64 (boreErr ⟨num, kind, rad, flu, hol, stp, fd, plu⟩ x y radius top depth)]) ∧ Below w.heap.size w w') → BorePost ⟨num, kind, rad, flu, hol, stp, fd, plu⟩ x y radius top depth w e w' := by
      rintro e w' ⟨rfl, hb⟩
      exact ⟨_, rfl, by rw [boreR, if_neg h0]; exact Rd.nil _ _, hb⟩
    cases hg : (⟨num, kind, rad, flu, hol, stp, fd, plu⟩ : Tl).good with
    | false => exact (bore_bad x y radius top depth num kind rad flu hol stp fd plu w HN HK br bd hg).mono fin
    | true => exact (bore_err x y radius top depth num kind rad flu hol stp fd plu w HN HK br bd hg h0).mono fin
theorem rbore_any (t : Tl) (x y radius top depth : Int) (w : World) (br : i64 radius) (bd : i64 depth) :
    Calls Tryd.prog 13 #[.agg #[.int .i64 x, .int .i64 y], .int .i64 radius, .int .i64 top, .int .i64 depth, t.v] w (BorePost t x y radius top depth w) := by
  by_cases h0 : boreErr t x y radius top depth = 0
  · have hk := boreOk h0
    obtain ⟨hn, hn1, hn4, hG⟩ := boreOk_n hk
    have hm := of_decide_eq_true hk.mills
    have hx := insB_t hk.bx
    have hy := insB_t hk.by_
    obtain ⟨num, kind, rad, flu, hol, stp, fd, plu⟩ := t
    have hG' := hG
    unfold Tl.Good at hG'
    dsimp only at hG' hm
    refine (rbore_ok x y radius top depth num kind rad flu hol stp fd plu (boreNo ⟨num, kind, rad, flu, hol, stp, fd, plu⟩ depth) w hk.good hk.kind hk.top_ hk.rad_ hk.dep_ hk.flu (by omega) (by omega) (by omega) (by omega) (by omega) (by omega) (by omega) hk.mills hk.bx hk.by_ hk.tp hk.dp (by omega) (by omega) (by omega) (by omega) hk.x1 hk.x2 hk.y1 hk.y2 hn hn1 hn4).mono ?_
    rintro e w' ⟨v, rfl, hr, hb⟩
    refine ⟨v, by rw [h0], ?_, hb⟩
    rw [boreR, if_pos h0, boreM_len]
    rw [boreM_cs, show (4 * ((boreNo ⟨num, kind, rad, flu, hol, stp, fd, plu⟩ depth : Nat) : Int)).toNat = 4 * boreNo ⟨num, kind, rad, flu, hol, stp, fd, plu⟩ depth by omega] at hr
    exact hr
  · obtain ⟨num, kind, rad, flu, hol, stp, fd, plu⟩ := t
    have fin : ∀ (e : Ending) (w' : World), (e = .returned (.tuple #[.slice none 0 0, .int .i64 (boreErr ⟨num, kind, rad, flu, hol, stp, fd, plu⟩ x y radius top depth)]) ∧ Below w.heap.size w w') → BorePost ⟨num, kind, rad, flu, hol, stp, fd, plu⟩ x y radius top depth w e w' := by
      rintro e w' ⟨rfl, hb⟩
      exact ⟨_, rfl, by rw [boreR, if_neg h0]; exact Rd.nil _ _, hb⟩
    cases hg : (⟨num, kind, rad, flu, hol, stp, fd, plu⟩ : Tl).good with
    | false => exact (rbore_bad x y radius top depth num kind rad flu hol stp fd plu w br bd hg).mono fin
    | true => exact (rbore_err x y radius top depth num kind rad flu hol stp fd plu w br bd hg h0).mono fin
end Go.Proofs.YtpiabmjipgfjjaaDoor

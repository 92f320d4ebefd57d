/-
  The document's example; two lists of lists. No program in sight.
-/
import Derived.Test.YtlkpkinmmjcbcaaM10
import Derived.Test.YtlkpkinmmjcbcaaL12
namespace Go.Mor
open Go.RowKit

def dia : List SB := [⟨none, 0, 0, none, 0, 0, 1, 0, 1, 2⟩, ⟨none, 0, 0, none, 0, 0, 0, 0, 3, 0⟩, ⟨none, 0, 0, none, 0, 0, 0, 0, 3, 0⟩, ⟨none, 0, 0, none, 0, 0, 2, 0, 0, 0⟩]
theorem dia_order : decide (orderL dia = [0, 2, 1, 3]) = true := by decide +kernel
theorem dia_above : decide (raboveL dia = [-1, 0, 0, 0]) = true := by decide +kernel
theorem dia_edge : decide (redgeL dia = [[], [3], [3], []]) = true := by decide +kernel
theorem flat_get {bs : List SB} {i : Nat} {x : SB} (hi : bs[i]? = some x) {j : Nat} {v : Value} (hj : x.cells[j]? = some v) : (bs.flatMap SB.cells)[i * 6 + j]? = some v := by
  induction bs generalizing i with
  | nil => simp at hi
  | cons y bs ih =>
    have hy : y.cells.length = 6 := rfl
    have hj6 : j < 6 := by
      have := (List.getElem?_eq_some_iff.1 hj).1
      exact this
    cases i with
    | zero =>
      simp only [List.getElem?_cons_zero, Option.some.injEq] at hi
      subst hi
      rw [List.flatMap_cons, List.getElem?_append_left (by omega), Nat.zero_mul, Nat.zero_add]
      exact hj
    | succ i =>
      simp only [List.getElem?_cons_succ] at hi
      rw [List.flatMap_cons, List.getElem?_append_right (by omega), show (i + 1) * 6 + j - y.cells.length = i * 6 + j by omega]
      exact ih hi
theorem row_blocks {w : World} {e n c : Nat} {A : Option Addr} {bs : List SB} (h : (Res.row e 6 A n c (bs.flatMap SB.cells)).holds w) : (Res.blocks A bs).holds w := by
  have hr := row_rd h
  intro i cs hi
  simp only [List.getElem?_map, Option.map_eq_some_iff] at hi
  obtain ⟨x, hx, rfl⟩ := hi
  obtain ⟨a, ha, _⟩ := hr (i * 6 + 0) _ (flat_get hx (j := 0) rfl)
  refine ⟨a, ha, fun j v hj => ?_⟩
  obtain ⟨a', ha', hc⟩ := hr (i * 6 + j) v (flat_get hx hj)
  rw [ha] at ha'
  injection ha' with ha'
  subst ha'
  rw [add_add]
  exact hc

theorem redge_len {bs : List SB} (h : bs.length ≤ 1000000) : ∀ x, x ∈ redgeL bs → x.length ≤ 1000000 := by
  intro x hx
  simp only [redgeL, List.mem_map] at hx
  obtain ⟨b, _, rfl⟩ := hx
  exact Nat.le_trans (redgeTo_len _ _ _) h
theorem redge_small : ∀ x, x ∈ redgeL dia → x.length ≤ 1000000 := redge_len (by decide)
theorem fam4 {A B : Option Addr} {c d : Nat} : FamOf (Value.int .i64) (List.replicate 1 nilV ++ [⟨A, 1, c, [.int .i64 3]⟩] ++ [⟨B, 1, d, [.int .i64 3]⟩] ++ [⟨none, 0, 0, []⟩]) [[], [3], [3], []] := rfl
theorem ll_next {l m : List (List Int)} {j : Nat} {x y : List Int} (h : l.take j = m.take j) (hx : l[j]? = some x) (hy : m[j]? = some y) (he : x = y) : l.take (j + 1) = m.take (j + 1) := by
  obtain ⟨h1, e1⟩ := List.getElem?_eq_some_iff.1 hx
  obtain ⟨h2, e2⟩ := List.getElem?_eq_some_iff.1 hy
  rw [List.take_succ_eq_append_getElem h1, List.take_succ_eq_append_getElem h2, h, e1, e2, he]
theorem ll_yes {l m : List (List Int)} {j : Nat} (h : l.take j = m.take j) (hl : l.length = m.length) (hj : l.length ≤ j) : decide (l = m) = true := by
  rw [List.take_of_length_le hj, List.take_of_length_le (by omega)] at h
  simpa using h
theorem ll_no {l m : List (List Int)} {j : Nat} {x y : List Int} (hx : l[j]? = some x) (hy : m[j]? = some y) (he : decide (x = y) = false) : decide (l = m) = false := by
  simp only [decide_eq_false_iff_not] at he ⊢
  rintro rfl
  rw [hx] at hy
  injection hy with hy
  exact he hy
theorem ll_len {l m : List (List Int)} (h : l.length ≠ m.length) : decide (l = m) = false := by
  simp only [decide_eq_false_iff_not]
  rintro rfl
  exact h rfl
end Go.Mor

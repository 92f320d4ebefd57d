/-
  The sources of all blocks. No program in sight.
-/
import Derived.Test.YtlkpkinmmjcbcaaM2
namespace Go.Mor
open Go.RowKit

theorem tgx_nodup (n : Nat) (x : SB) : (tgx n x).Nodup := by
  unfold tgx
  refine List.Pairwise.filter _ ?_
  split
  · simp
  · split
    · split
      · simp
      · rename_i h
        simp [h]
    · simp
theorem tg_nodup (bs : List SB) (b : Int) : (tg bs b).Nodup := by
  unfold tg
  split
  · split
    · exact tgx_nodup _ _
    · simp
  · simp
def allTo (bs : List SB) (i : Nat) : List (List Int) := (List.range bs.length).map (fun t : Nat => srcsTo bs (t : Int) i)
def allL (bs : List SB) : List (List Int) := (List.range bs.length).map (fun t : Nat => srcs bs (t : Int))
def allMid (bs : List SB) (i k : Nat) : List (List Int) := (List.range bs.length).map (fun t : Nat => srcsTo bs (t : Int) i ++ (if ((tg bs (i : Int)).take k).contains (t : Int) = true then [(i : Int)] else []))
theorem all_start (bs : List SB) : allTo bs 0 = List.replicate bs.length [] := by
  unfold allTo
  apply List.ext_getElem?
  intro t
  by_cases h : t < bs.length
  · simp [h, srcsTo]
  · rw [List.getElem?_eq_none (by simpa using h), List.getElem?_eq_none (by simpa using h)]
theorem all_mid (bs : List SB) (i : Nat) : allMid bs i 0 = allTo bs i := by
  unfold allMid allTo
  simp
theorem all_next {bs : List SB} {i k : Nat} (hk : (tg bs (i : Int)).length ≤ k) : allMid bs i k = allTo bs (i + 1) := by
  unfold allMid allTo
  apply List.map_congr_left
  intro t _
  rw [srcsTo_succ, List.take_of_length_le hk]
theorem all_end (bs : List SB) : allTo bs bs.length = allL bs := rfl
theorem mid_get {bs : List SB} {i k ti : Nat} (hk : (tg bs (i : Int))[k]? = some (ti : Int)) (ht : ti < bs.length) : (allMid bs i k)[ti]? = some (srcsTo bs (ti : Int) i) := by
  have hn := tg_nodup bs (i : Int)
  have hno : ¬ (ti : Int) ∈ (tg bs (i : Int)).take k := by
    intro h
    obtain ⟨hlt, he⟩ := List.getElem?_eq_some_iff.1 hk
    obtain ⟨j, hj, he2⟩ := List.mem_take_iff_getElem.1 h
    exact List.pairwise_iff_getElem.1 hn j k (by omega) hlt (by omega) (he2.trans he.symm)
  unfold allMid
  rw [List.getElem?_map, List.getElem?_range ht]
  simp [hno]
theorem mid_set {bs : List SB} {i k ti : Nat} (hk : (tg bs (i : Int))[k]? = some (ti : Int)) (ht : ti < bs.length) : (allMid bs i k).set ti (srcsTo bs (ti : Int) i ++ [(i : Int)]) = allMid bs i (k + 1) := by
  obtain ⟨hlt, he⟩ := List.getElem?_eq_some_iff.1 hk
  apply List.ext_getElem?
  intro t
  by_cases h : ti = t
  · subst h
    rw [List.getElem?_set_self (by simpa [allMid] using ht)]
    unfold allMid
    rw [List.getElem?_map, List.getElem?_range ht, List.take_succ_eq_append_getElem hlt, he]
    simp
  · rw [List.getElem?_set_ne h]
    unfold allMid
    rw [List.getElem?_map, List.getElem?_map]
    by_cases h2 : t < bs.length
    · rw [List.getElem?_range h2, List.take_succ_eq_append_getElem hlt, he]
      have h3 : ¬ ((t : Int) = (ti : Int)) := by omega
      simp [h3]
    · rw [List.getElem?_eq_none (by simpa using h2)]
      rfl
theorem allL_get {bs : List SB} {t : Nat} (h : t < bs.length) : (allL bs)[t]? = some (srcs bs (t : Int)) := by simp [allL, h]
theorem allL_len (bs : List SB) : (allL bs).length = bs.length := by simp [allL]
theorem set_twice {rows : List RowV} {i : Nat} {r : RowV} : (rows.set i nilV).set i r = rows.set i r := List.set_set ..
end Go.Mor

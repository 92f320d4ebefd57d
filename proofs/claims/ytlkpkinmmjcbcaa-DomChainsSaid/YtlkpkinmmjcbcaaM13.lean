/-
  How many blocks are reached; each place of the order. No program in sight.
-/
import Derived.Test.YtlkpkinmmjcbcaaM9
namespace Go.Mor
open Go.RowKit

def cntT (bs : List SB) (k : Nat) : Nat := ((List.range k).filter (fun i : Nat => walkB bs (-1) (i : Int))).length
theorem cnt_yes {bs : List SB} {k : Nat} (h : (walkL bs (-1)).getD k false = true) (hk : k < bs.length) : cntT bs (k + 1) = cntT bs k + 1 := by
  rw [walkL_get hk] at h
  simp [cntT, List.range_succ, List.filter_append, h]
theorem cnt_no {bs : List SB} {k : Nat} (h : (walkL bs (-1)).getD k false = false) (hk : k < bs.length) : cntT bs (k + 1) = cntT bs k := by
  rw [walkL_get hk] at h
  simp [cntT, List.range_succ, List.filter_append, h]
theorem cnt_le (bs : List SB) (k : Nat) : cntT bs k ≤ k := by
  unfold cntT
  exact Nat.le_trans (List.length_filter_le _ _) (by simp)
theorem nodup_cast {l : List Nat} (h : l.Nodup) : (l.map (fun i : Nat => (i : Int))).Nodup := by
  rw [List.Nodup, List.pairwise_map]
  exact h.imp (fun h e => h (by omega))
theorem cnt_end (bs : List SB) : cntT bs bs.length = (orderL bs).length := by
  by_cases h0 : bs.length = 0
  · unfold cntT orderL
    rw [if_pos h0, h0]; rfl
  · have ho := order_ok (bs := bs) (by omega)
    have hn : (((List.range bs.length).filter (fun i : Nat => walkB bs (-1) (i : Int))).map (fun i : Nat => (i : Int))).Nodup := nodup_cast (List.nodup_range.sublist List.filter_sublist)
    have hp := (List.perm_ext_iff_of_nodup ho.nodup hn).2 (fun x => by
      rw [ho.mem x]
      constructor
      · intro hx
        obtain ⟨h1, h2⟩ := reach_rng (by omega) hx
        exact List.mem_map.2 ⟨x.toNat, List.mem_filter.2 ⟨List.mem_range.2 (by omega), by rw [Int.toNat_of_nonneg h1]; exact walk_reach.2 hx⟩, Int.toNat_of_nonneg h1⟩
      · intro hx
        obtain ⟨i, hi, rfl⟩ := List.mem_map.1 hx
        exact walk_reach.1 (List.mem_filter.1 hi).2)
    rw [hp.length_eq, List.length_map]; rfl
theorem at_eq {n : Nat} {l : List Int} {f : Int → Int} (h : IntsOf n l f) {x v : Int} (h0 : 0 ≤ x) (h1 : x < n) (e : f x = v) : (ints l)[x.toNat]? = some (.int .i64 v) := by rw [← e]; exact h.at_ h0 h1
theorem bool_at {l : List Bool} {i : Nat} (h : l.getD i false = true) : (bools l)[i]? = some (.bool true) := by
  have hi : i < l.length := by
    rcases Nat.lt_or_ge i l.length with h1 | h1
    · exact h1
    · simp [List.getD, List.getElem?_eq_none h1] at h
  rw [bools_get hi, h]
theorem ord_in {bs : List SB} {k bi : Nat} (hk : (orderL bs)[k]? = some (bi : Int)) (hb : bi < bs.length) : (walkL bs (-1)).getD bi false = true := by
  rw [walkL_get hb]
  exact walk_reach.2 ((order_ok (by omega)).mem _ |>.1 (List.mem_of_getElem? hk))
theorem ord_new {bs : List SB} {k bi : Nat} (hk : (orderL bs)[k]? = some (bi : Int)) (hb : bi < bs.length) : plc ((orderL bs).take k) (bi : Int) = -1 := by
  refine plc_no fun hm => ?_
  obtain ⟨j, hj⟩ := List.mem_iff_getElem?.1 hm
  have hjk : j < k := by have := (List.getElem?_eq_some_iff.1 hj).1; simp at this; omega
  rw [List.getElem?_take_of_lt hjk] at hj
  have hnd := (order_ok (bs := bs) (by omega)).nodup
  have e1 := plc_at hnd hj
  have e2 := plc_at hnd hk
  omega
theorem ord_zero {bs : List SB} (h : 0 < (orderL bs).length) : (orderL bs)[0]? = some 0 := by
  have : 0 < bs.length := by have := orderL_len bs; omega
  exact (order_ok this).head
theorem in_place {bs : List SB} {j : Nat} (hj : j < bs.length) (h : (walkL bs (-1)).getD j false = true) : 0 ≤ plB bs (j : Int) := by
  rw [walkL_get hj] at h
  exact ((plB_plc (by omega)).reach _).2 (walk_reach.1 h)
theorem out_place {bs : List SB} {j : Nat} (hj : j < bs.length) (h : (walkL bs (-1)).getD j false = false) : plB bs (j : Int) < 0 := by
  rcases Int.lt_or_le (plB bs (j : Int)) 0 with h1 | h1
  · exact h1
  · rw [walkL_get hj] at h
    have := walk_reach.2 (((plB_plc (bs := bs) (by omega)).reach _).1 h1)
    rw [h] at this; cases this
theorem up_low {bs : List SB} {up : Int → Int} (hf : FinU bs up) {j : Nat} (hj : j < bs.length) (h : (walkL bs (-1)).getD j false = true) (h0 : j ≠ 0) : ∃ u : Nat, up (j : Int) = (u : Int) ∧ u < bs.length ∧ 0 ≤ plB bs (u : Int) ∧ plB bs (u : Int) < plB bs (j : Int) := by
  have hp := in_place hj h
  obtain ⟨h1, h2⟩ := hf.ok.low (j : Int) (hf.prc _ hp) (by omega)
  obtain ⟨h3, h4⟩ := plB_rng (bs := bs) (by omega) h1.1
  refine ⟨(up (j : Int)).toNat, (Int.toNat_of_nonneg h3).symm, by omega, ?_, ?_⟩
  · rw [Int.toNat_of_nonneg h3]; exact h1.1
  · rw [Int.toNat_of_nonneg h3]; exact h2
end Go.Mor

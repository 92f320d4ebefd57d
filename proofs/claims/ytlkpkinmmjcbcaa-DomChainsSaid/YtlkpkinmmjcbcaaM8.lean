/-
  More that the walk of dom.tree needs. No program in sight.
-/
import Derived.Test.YtlkpkinmmjcbcaaM7
namespace Go.Mor
open Go.RowKit

theorem orderL_len (bs : List SB) : (orderL bs).length ≤ bs.length := by
  unfold orderL
  split
  · simp
  · rw [List.length_reverse]
    exact leftL_len (by omega)
theorem ord_get {bs : List SB} {k : Nat} (hk : k < (orderL bs).length) : ∃ bi : Nat, (orderL bs)[k]? = some (bi : Int) ∧ bi < bs.length ∧ plB bs (bi : Int) = (k : Int) := by
  have hl := orderL_len bs
  have ho := order_ok (bs := bs) (by omega)
  have hg : (orderL bs)[k]? = some (orderL bs)[k] := List.getElem?_eq_getElem hk
  have hr := reach_rng (by omega) ((ho.mem _).1 (List.mem_of_getElem? hg))
  obtain ⟨q, hq⟩ := Int.eq_ofNat_of_zero_le hr.1
  rw [hq] at hg
  exact ⟨q, hg, by omega, plc_at ho.nodup hg⟩
theorem ord_drop {bs : List SB} {j : Nat} (hk : j + 1 < (orderL bs).length) : ∃ bi : Nat, ((orderL bs).drop 1)[j]? = some (bi : Int) ∧ bi < bs.length ∧ plB bs (bi : Int) = (j : Int) + 1 := by
  obtain ⟨bi, h1, h2, h3⟩ := ord_get hk
  exact ⟨bi, by rw [List.getElem?_drop, Nat.add_comm]; exact h1, h2, by omega⟩
theorem rd_tail {w : World} {ad : Addr} {l : List Int} (h : (Res.rd (some ad) (ints l)).holds w) : (Res.rd (some (ad.add (1 * 1))) (ints (l.drop 1))).holds w := by
  have := rd_drop h 1
  simpa [ints] using this
theorem places_start (bs : List SB) {l : List Int} (h : IntsOf bs.length l (fun _ => -1)) : IntsOf bs.length l (plc ((orderL bs).take 0)) := h.congr (fun i _ => (plc_no (by simp)).symm)
theorem places_next {bs : List SB} {l : List Int} {k bi : Nat} (h : IntsOf bs.length l (plc ((orderL bs).take k))) (hk : (orderL bs)[k]? = some (bi : Int)) (hb : bi < bs.length) : IntsOf bs.length (l.set bi (k : Int)) (plc ((orderL bs).take (k + 1))) := by
  have hlt := (List.getElem?_eq_some_iff.1 hk).1
  have hl := orderL_len bs
  have ho := order_ok (bs := bs) (by omega)
  refine h.set hb ?_ fun j _ hne => ?_
  · rw [plc_take ho.nodup hk, if_pos rfl]
  · rw [plc_take ho.nodup hk, if_neg (by omega)]
theorem places_end {bs : List SB} {l : List Int} {k : Nat} (h : IntsOf bs.length l (plc ((orderL bs).take k))) (hk : (orderL bs).length ≤ k) : IntsOf bs.length l (plB bs) := by
  rw [List.take_of_length_le hk] at h
  exact h
theorem take_snoc {l : List Int} {q : Nat} {x : Int} (h : l[q]? = some x) : l.take (q + 1) = l.take q ++ [x] := by
  obtain ⟨hlt, he⟩ := List.getElem?_eq_some_iff.1 h
  rw [List.take_succ_eq_append_getElem hlt, he]
theorem srcs_at {bs : List SB} {b : Int} {q : Nat} (h : q < (srcs bs b).length) : ∃ si : Nat, (srcs bs b)[q]? = some (si : Int) ∧ si < bs.length := by
  have h1 := srcs_mem (List.getElem_mem h)
  obtain ⟨k, he⟩ := Int.eq_ofNat_of_zero_le h1.1
  exact ⟨k, by rw [List.getElem?_eq_getElem h, he], by omega⟩
theorem src_iff {bs : List SB} (h : 0 < bs.length) {b : Int} : ∀ s, 0 ≤ plB bs s → (s ∈ srcs bs b ↔ b ∈ tg bs s) := fun s hs => by
  rw [mem_srcs]
  exact ⟨fun h => h.2, fun hb => ⟨plB_rng h hs, hb⟩⟩
theorem plB_lt (bs : List SB) (x : Int) : plB bs x < (orderL bs).length := plc_lt
theorem ab_end {bs : List SB} {up : Int → Int} {ab : List Int} {k : Nat} {j : Int} (hr : 0 < bs.length → Rnd (tg bs) (plB bs) up k 0) (hk : 1 ≤ k) (hs : Stl (tg bs) (plB bs) up j) (hj : ∀ x, plB bs x ≤ j) (hab : IntsOf bs.length ab up) : ab = raboveL bs := by
  rcases Nat.eq_zero_or_pos bs.length with h0 | h0
  · have e1 : ab = [] := List.eq_nil_of_length_eq_zero (by rw [hab.1, h0])
    have e2 : raboveL bs = [] := List.eq_nil_of_length_eq_zero (by simp [raboveL, aboveOfL, overL_len, h0])
    rw [e1, e2]
  · exact above_end h0 (hr h0) hk hs hj hab
theorem lim_next {n k : Nat} {b : Bool} (hf : n + 2 ≤ k → b = false) (h : b = true) : k + 1 ≤ n + 2 := by
  by_cases h8 : n + 2 ≤ k
  · rw [hf h8] at h
    cases h
  · omega
theorem raboveL_len (bs : List SB) : (raboveL bs).length = bs.length := by simp [raboveL, aboveOfL, overL_len]
theorem atL_len (bs : List SB) : (atL bs).length = bs.length := by simp [atL]
/-- Nothing turned at one block: all its sources stand below. -/
theorem Rnd.keep {bs : List SB} {up : Int → Int} {k : Nat} {j b to : Int} (h : Rnd (tg bs) (plB bs) up k j) (hb : plB bs b = j + 1) (hto : 0 ≤ to) (he : up b = to) (ha : ∀ s, Prc (plB bs) up s → b ∈ tg bs s → Anc up s to) :
    ∀ s, 0 ≤ plB bs s → b ∈ tg bs s → Anc up s (up b) := by
  intro s hs hx
  rw [he]
  refine ha s ⟨hs, ?_⟩ hx
  by_cases e : s = 0
  · exact .inl e
  · refine .inr (h.some s hs e (.inr ?_))
    by_cases hk : k = 0
    · have := h.non hk b (by omega)
      omega
    · omega
end Go.Mor

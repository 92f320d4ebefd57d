/-
  The order's places; what stands above at the end is the reference's. No program in sight.
-/
import Derived.Test.YtlkpkinmmjcbcaaM5
namespace Go.Mor
open Go.RowKit

/-! ### lists that tell a function -/
def IntsOf (n : Nat) (l : List Int) (f : Int → Int) : Prop := l.length = n ∧ ∀ i : Nat, i < n → l.getD i 0 = f (i : Int)
theorem IntsOf.ext {n : Nat} {l m : List Int} {f : Int → Int} (h : IntsOf n l f) (h' : IntsOf n m f) : l = m := by
  apply List.ext_getElem?
  intro i
  by_cases hi : i < n
  · have h1 := h.2 i hi
    have h2 := h'.2 i hi
    have e1 : i < l.length := by rw [h.1]; exact hi
    have e2 : i < m.length := by rw [h'.1]; exact hi
    simp only [List.getD, List.getElem?_eq_getElem e1, List.getElem?_eq_getElem e2, Option.getD_some] at h1 h2 ⊢
    rw [h1, h2]
  · rw [List.getElem?_eq_none (by rw [h.1]; omega), List.getElem?_eq_none (by rw [h'.1]; omega)]
theorem IntsOf.set {n : Nat} {l : List Int} {f g : Int → Int} (h : IntsOf n l f) {i : Nat} {v : Int} (_hi : i < n) (hg : g (i : Int) = v) (hne : ∀ j : Nat, j < n → j ≠ i → g (j : Int) = f (j : Int)) : IntsOf n (l.set i v) g := by
  refine ⟨by simp [h.1], fun j hj => ?_⟩
  by_cases e : i = j
  · subst e
    have : i < l.length := by rw [h.1]; exact hj
    simp [List.getD, this, hg]
  · rw [hne j hj (fun h => e h.symm), ← h.2 j hj]
    simp [List.getD, List.getElem?_set_ne e]
theorem IntsOf.get {n : Nat} {l : List Int} {f : Int → Int} (h : IntsOf n l f) {i : Nat} (hi : i < n) : l[i]? = some (f (i : Int)) := by
  have h1 := h.2 i hi
  have e1 : i < l.length := by rw [h.1]; exact hi
  simp only [List.getD, List.getElem?_eq_getElem e1, Option.getD_some] at h1
  rw [List.getElem?_eq_getElem e1, h1]
theorem IntsOf.congr {n : Nat} {l : List Int} {f g : Int → Int} (h : IntsOf n l f) (e : ∀ i : Nat, i < n → f (i : Int) = g (i : Int)) : IntsOf n l g := ⟨h.1, fun i hi => (h.2 i hi).trans (e i hi)⟩
/-- The first k are -1. -/
def fillF (k : Nat) (x : Int) : Int := if x < (k : Int) then -1 else 0
theorem fill_start (n : Nat) : IntsOf n (List.replicate n 0) (fillF 0) := ⟨by simp, fun i hi => by
  have : ¬ ((i : Int) < ((0 : Nat) : Int)) := by omega
  rw [fillF, if_neg this]
  simp [List.getD, hi]⟩
theorem fill_next {n k : Nat} {l : List Int} (h : IntsOf n l (fillF k)) (hk : k < n) : IntsOf n (l.set k (-1)) (fillF (k + 1)) := by
  refine h.set hk ?_ fun j _ hne => ?_
  · rw [fillF, if_pos (by omega)]
  · unfold fillF
    by_cases e : (j : Int) < (k : Int)
    · rw [if_pos e, if_pos (by omega)]
    · rw [if_neg e, if_neg (by omega)]
theorem fill_end {n k : Nat} {l : List Int} (h : IntsOf n l (fillF k)) (hk : n ≤ k) : IntsOf n l (fun _ => -1) := h.congr (fun i hi => by rw [fillF, if_pos (by omega)])

/-! ### places -/
def plc (l : List Int) (x : Int) : Int := fidx (fun y => y == x) l
theorem plc_at {l : List Int} (hn : l.Nodup) {i : Nat} {x : Int} (h : l[i]? = some x) : plc l x = (i : Int) := by
  obtain ⟨hlt, he⟩ := List.getElem?_eq_some_iff.1 h
  refine fidx_hit (j := i) ?_ (by simp [List.getD, hlt, he]) hlt
  rw [List.any_eq_false]
  intro y hy
  obtain ⟨j, hj, he2⟩ := List.mem_take_iff_getElem.1 hy
  simp only [beq_iff_eq]
  intro e
  exact List.pairwise_iff_getElem.1 hn j i (by omega) hlt (by omega) (by rw [he2, he, e])
theorem plc_no {l : List Int} {x : Int} (h : x ∉ l) : plc l x = -1 := by
  refine fidx_miss (j := l.length) ?_ (Nat.le_refl _)
  rw [List.any_eq_false]
  intro y hy
  simp only [beq_iff_eq]
  rintro rfl
  exact h (List.mem_of_mem_take hy)
theorem plc_mem {l : List Int} (hn : l.Nodup) {x : Int} : 0 ≤ plc l x ↔ x ∈ l := by
  constructor
  · intro h
    by_cases e : x ∈ l
    · exact e
    · rw [plc_no e] at h; omega
  · intro h
    obtain ⟨i, hi⟩ := List.mem_iff_getElem?.1 h
    rw [plc_at hn hi]
    omega
theorem plc_get {l : List Int} (hn : l.Nodup) {x : Int} {i : Nat} (h : plc l x = (i : Int)) : l[i]? = some x := by
  have hm := (plc_mem hn (x := x)).1 (by omega)
  obtain ⟨j, hj⟩ := List.mem_iff_getElem?.1 hm
  have := plc_at hn hj
  rw [this] at h
  have : j = i := by omega
  exact this ▸ hj
theorem plc_lt {l : List Int} {x : Int} : plc l x < l.length := (fidx_lt _ l).2
/-- The places among the first k. -/
theorem plc_take {l : List Int} (hn : l.Nodup) {k : Nat} {b : Int} (hk : l[k]? = some b) (x : Int) : plc (l.take (k + 1)) x = if x = b then (k : Int) else plc (l.take k) x := by
  obtain ⟨hlt, he⟩ := List.getElem?_eq_some_iff.1 hk
  have hn1 : (l.take (k + 1)).Nodup := hn.sublist (List.take_sublist _ _)
  have hn0 : (l.take k).Nodup := hn.sublist (List.take_sublist _ _)
  by_cases e : x = b
  · subst e
    rw [if_pos rfl]
    exact plc_at hn1 (by rw [List.getElem?_take_of_lt (by omega)]; exact hk)
  · rw [if_neg e]
    by_cases hm : x ∈ l.take k
    · obtain ⟨j, hj⟩ := List.mem_iff_getElem?.1 hm
      rw [plc_at hn0 hj]
      have hjk : j < k := by
        have := (List.getElem?_eq_some_iff.1 hj).1
        simp at this; omega
      rw [List.getElem?_take_of_lt hjk] at hj
      exact plc_at hn1 (by rw [List.getElem?_take_of_lt (by omega)]; exact hj)
    · rw [plc_no hm, plc_no]
      rw [List.take_succ_eq_append_getElem hlt, he]
      simp only [List.mem_append, List.mem_singleton, not_or]
      exact ⟨hm, e⟩

structure OrdOk (T : Int → List Int) (l : List Int) : Prop where
  head : l[0]? = some 0
  nodup : l.Nodup
  mem : ∀ x, x ∈ l ↔ Reach T x
  src : ∀ x, x ∈ l → x ≠ 0 → ∃ s, plc l s < plc l x ∧ 0 ≤ plc l s ∧ x ∈ T s
theorem order_ok {bs : List SB} (h : 0 < bs.length) : OrdOk (tg bs) (orderL bs) := by
  obtain ⟨s, hk, he⟩ := left_kids bs
  have hz := kids_zero hk
  obtain ⟨nw, h1, h2, h3, h4, h5⟩ := kids_new hk
  simp only [List.nil_append] at h1
  have hl : orderL bs = 0 :: nw.reverse := by
    unfold orderL
    rw [if_neg (by omega), ← he, h1]
    simp
  have h0 : (0 : Int) ∉ nw := by
    intro hm
    have := h4 0 hm
    simp [addS] at this
  have hnd : (orderL bs).Nodup := by
    rw [hl, List.nodup_cons]
    exact ⟨by simpa using h0, List.pairwise_reverse.2 (h3.imp (fun h => fun e => h e.symm))⟩
  refine ⟨by rw [hl]; rfl, hnd, fun x => ?_, fun x hx hne => ?_⟩
  · rw [← hz x, h2 x, hl]
    simp [addS]
  · have hx' : x ∈ nw := by
      rw [hl] at hx
      simpa [hne] using hx
    obtain ⟨l1, l2, e⟩ := List.append_of_mem hx'
    have hl2 : orderL bs = (0 :: l2.reverse) ++ x :: l1.reverse := by
      rw [hl, e]
      simp
    have px : plc (orderL bs) x = ((0 :: l2.reverse).length : Int) := by
      refine plc_at hnd ?_
      rw [hl2, List.getElem?_append_right (Nat.le_refl _)]
      simp
    have py : ∀ y, y ∈ (0 : Int) :: l2.reverse → plc (orderL bs) y < plc (orderL bs) x ∧ 0 ≤ plc (orderL bs) y := by
      intro y hy
      obtain ⟨j, hj, hje⟩ := List.mem_iff_getElem.1 hy
      have : plc (orderL bs) y = (j : Int) := by
        refine plc_at hnd ?_
        rw [hl2, List.getElem?_append_left hj, List.getElem?_eq_getElem hj, hje]
      omega
    rcases h5 l1 x l2 e with h | ⟨y, hy, h⟩
    · exact ⟨0, (py 0 (by simp)).1, (py 0 (by simp)).2, h⟩
    · have := py y (by simp [hy])
      exact ⟨y, this.1, this.2, h⟩
theorem OrdOk.plc {T : Int → List Int} {l : List Int} (h : OrdOk T l) : Plc T (plc l) where
  reach := fun x => (plc_mem h.nodup).trans (h.mem x)
  zero := plc_at h.nodup h.head
  inj := fun x y hx e => by
    obtain ⟨i, hi⟩ := List.mem_iff_getElem?.1 ((plc_mem h.nodup).1 hx)
    have e1 := plc_at h.nodup hi
    have e2 := plc_get h.nodup (x := y) (i := i) (by omega)
    rw [hi] at e2
    injection e2
  src := fun x hx hne => by
    obtain ⟨s, h1, h2, h3⟩ := h.src x ((plc_mem h.nodup).1 hx) hne
    exact ⟨s, h2, h1, h3⟩
def plB (bs : List SB) (x : Int) : Int := plc (orderL bs) x
theorem plB_plc {bs : List SB} (h : 0 < bs.length) : Plc (tg bs) (plB bs) := (order_ok h).plc
theorem reach_rng {bs : List SB} (h : 0 < bs.length) {x : Int} (hx : Reach (tg bs) x) : 0 ≤ x ∧ x < (bs.length : Int) := reach_in h (fun _ _ h => tg_mem h) hx
theorem plB_rng {bs : List SB} (h : 0 < bs.length) {x : Int} (hx : 0 ≤ plB bs x) : 0 ≤ x ∧ x < (bs.length : Int) := reach_rng h (((plB_plc h).reach x).1 hx)
def atL (bs : List SB) : List Int := (List.range bs.length).map (fun i : Nat => plB bs (i : Int))
theorem atL_of (bs : List SB) : IntsOf bs.length (atL bs) (plB bs) := ⟨by simp [atL], fun i hi => by simp [atL, List.getD, hi]⟩
theorem mem_srcs {bs : List SB} {b s : Int} : s ∈ srcs bs b ↔ (0 ≤ s ∧ s < bs.length) ∧ b ∈ tg bs s := by
  simp only [srcs, srcsTo, List.mem_map, List.mem_filter, List.mem_range, List.contains_eq_mem, decide_eq_true_eq]
  constructor
  · rintro ⟨i, ⟨h1, h2⟩, rfl⟩
    exact ⟨by omega, h2⟩
  · rintro ⟨h1, h2⟩
    obtain ⟨k, rfl⟩ := Int.eq_ofNat_of_zero_le h1.1
    exact ⟨k, ⟨by omega, h2⟩, rfl⟩

/-! ### the end -/
theorem walk_reach {bs : List SB} {x : Int} : walkB bs (-1) x = true ↔ Reach (tg bs) x := by
  rw [walkB_reach]
  have e : ∀ y, tgb (tg bs) (-1) y = tg bs y := by
    intro y
    unfold tgb
    rw [List.filter_eq_self]
    intro t ht
    have := tg_mem ht
    simp only [Bool.not_eq_true', beq_eq_false_iff_ne, ne_eq]
    omega
  have e2 : tgb (tg bs) (-1) = tg bs := funext e
  rw [e2]
  exact ⟨fun h => h.2, fun h => ⟨by decide, h⟩⟩
theorem walk_dm {bs : List SB} {d x : Int} : walkB bs d x = false ↔ Dm (tg bs) d x := by
  unfold Dm
  rw [← walkB_reach]
  simp
theorem at2_over {bs : List SB} {d b : Nat} (hd : d < bs.length) (hb : b < bs.length) : at2 (overL bs) d b = true ↔ Reach (tg bs) (b : Int) ∧ Dm (tg bs) (d : Int) (b : Int) := by
  have : at2 (overL bs) d b = overB bs (d : Int) (b : Int) := by simp [at2, overL, List.getD, hd, hb]
  rw [this]
  simp only [overB, Bool.and_eq_true, Bool.not_eq_true']
  rw [walk_reach, walk_reach, walk_dm]
  exact ⟨fun h => h.2, fun h => ⟨Dm.reach h.1 h.2, h⟩⟩

theorem best_none {l : List (List Bool)} {b k : Nat} (h : ∀ d : Nat, d < k → d ≠ b → at2 l d b = false) : bestTo l b k = -1 := by
  induction k with
  | zero => rfl
  | succ k ih =>
    unfold bestTo
    rw [ih (fun d hd => h d (by omega))]
    refine if_neg fun hh => ?_
    rw [h k (by omega) hh.1] at hh
    exact Bool.noConfusion hh.2.1
theorem best_inv {bs : List SB} {up : Int → Int} (h0 : 0 < bs.length) (hu : Up (tg bs) (plB bs) up) (hp : ∀ x, 0 ≤ plB bs x → Prc (plB bs) up x) (hd : ∀ x d, 0 ≤ plB bs x → Anc up x d → Dm (tg bs) d x) {b : Nat} (hb : b < bs.length) (hr : 0 ≤ plB bs (b : Int)) :
    ∀ k, k ≤ bs.length → (bestTo (overL bs) b k = -1 ∧ ∀ d : Nat, d < k → d ≠ b → ¬ Dm (tg bs) (d : Int) (b : Int)) ∨
      (∃ d : Nat, bestTo (overL bs) b k = (d : Int) ∧ d < k ∧ d ≠ b ∧ Dm (tg bs) (d : Int) (b : Int) ∧ ∀ e : Nat, e < k → e ≠ b → Dm (tg bs) (e : Int) (b : Int) → Dm (tg bs) (e : Int) (d : Int)) := by
  have hP := plB_plc h0
  have hbr := (hP.reach _).1 hr
  have rd : ∀ d x, 0 ≤ plB bs x → Dm (tg bs) d x → 0 ≤ plB bs d := fun d x hx h => (hP.reach d).2 (Dm.reach ((hP.reach x).1 hx) h)
  intro k
  induction k with
  | zero => exact fun _ => .inl ⟨rfl, fun d h => by omega⟩
  | succ k ih =>
    intro hk
    have hat : at2 (overL bs) k b = true ↔ Dm (tg bs) (k : Int) (b : Int) := by
      rw [at2_over (by omega) hb]
      exact ⟨fun h => h.2, fun h => ⟨hbr, h⟩⟩
    rcases ih (by omega) with ⟨h1, h2⟩ | ⟨d, h1, h2, h3, h4, h5⟩
    · by_cases c : k ≠ b ∧ at2 (overL bs) k b = true
      · right
        refine ⟨k, ?_, by omega, c.1, hat.1 c.2, fun e he hne hd' => ?_⟩
        · unfold bestTo
          exact if_pos ⟨c.1, c.2, .inl (by omega)⟩
        · by_cases e2 : e = k
          · subst e2; exact Dm.self _
          · exact absurd hd' (h2 e (by omega) hne)
      · left
        refine ⟨?_, fun e he hne hd' => ?_⟩
        · unfold bestTo
          rw [if_neg (fun hh => c ⟨hh.1, hh.2.1⟩)]
          exact h1
        · by_cases e2 : e = k
          · subst e2; exact c ⟨hne, hat.2 hd'⟩
          · exact h2 e (by omega) hne hd'
    · have had : at2 (overL bs) d k = true ↔ Reach (tg bs) (k : Int) ∧ Dm (tg bs) (d : Int) (k : Int) := at2_over (by omega) (by omega)
      by_cases c : k ≠ b ∧ at2 (overL bs) k b = true
      · have hkb := hat.1 c.2
        have hkr := rd _ _ hr hkb
        by_cases c2 : at2 (overL bs) d k = true
        · right
          refine ⟨k, ?_, by omega, c.1, hkb, fun e he hne hd' => ?_⟩
          · unfold bestTo
            exact if_pos ⟨c.1, c.2, .inr (by rw [h1]; exact c2)⟩
          · by_cases e2 : e = k
            · subst e2; exact Dm.self _
            · have a1 := hu.anc (hp _ hkr) (had.1 c2).2
              have a2 := hu.anc (hp _ (rd _ _ hkr (had.1 c2).2)) (h5 e (by omega) hne hd')
              exact hd _ _ hkr (a1.trans a2)
        · right
          refine ⟨d, ?_, by omega, h3, h4, fun e he hne hd' => ?_⟩
          · unfold bestTo
            rw [if_neg]
            · exact h1
            · rintro ⟨_, _, hh⟩
              rw [h1] at hh
              rcases hh with hh | hh
              · omega
              · exact c2 hh
          · by_cases e2 : e = k
            · subst e2
              have hdr := rd _ _ hr h4
              rcases Anc.total (hu.anc (hp _ hr) hkb) (hu.anc (hp _ hr) h4) with t | t
              · exact absurd (had.2 ⟨(hP.reach _).1 hkr, hd _ _ hkr t⟩) c2
              · exact hd _ _ hdr t
            · exact h5 e (by omega) hne hd'
      · right
        refine ⟨d, ?_, by omega, h3, h4, fun e he hne hd' => ?_⟩
        · unfold bestTo
          rw [if_neg (fun hh => c ⟨hh.1, hh.2.1⟩)]
          exact h1
        · by_cases e2 : e = k
          · subst e2; exact absurd ⟨hne, hat.2 hd'⟩ c
          · exact h5 e (by omega) hne hd'

theorem above_end {bs : List SB} {up : Int → Int} {ab : List Int} {k : Nat} {i j : Int} (h0 : 0 < bs.length) (hr : Rnd (tg bs) (plB bs) up k i) (hk : 1 ≤ k) (hs : Stl (tg bs) (plB bs) up j) (hj : ∀ x, plB bs x ≤ j) (hab : IntsOf bs.length ab up) : ab = raboveL bs := by
  have hP := plB_plc h0
  have hp : ∀ x, 0 ≤ plB bs x → Prc (plB bs) up x := fun x h => ⟨h, by
    by_cases e : x = 0
    · exact .inl e
    · exact .inr (hr.some x h e (.inr hk))⟩
  have hd : ∀ x d, 0 ≤ plB bs x → Anc up x d → Dm (tg bs) d x := fun x d _ h => hs.dm hP hj h
  refine hab.ext ⟨by simp [raboveL, aboveOfL, overL_len], fun b hb => ?_⟩
  have e1 : (raboveL bs).getD b 0 = bestTo (overL bs) b bs.length := by
    simp [raboveL, aboveOfL, overL_len, List.getD, hb]
  rw [e1]
  have at_no : ∀ d : Nat, d < bs.length → ¬ Dm (tg bs) (d : Int) (b : Int) ∨ ¬ Reach (tg bs) (b : Int) → at2 (overL bs) d b = false := by
    intro d hdl hh
    rw [← Bool.not_eq_true]
    intro ht
    have := (at2_over hdl hb).1 ht
    rcases hh with hh | hh
    · exact hh this.2
    · exact hh this.1
  by_cases hbr : 0 ≤ plB bs (b : Int)
  · by_cases hb0 : b = 0
    · subst hb0
      rw [show up ((0 : Nat) : Int) = -1 from hr.off _ (.inr rfl)]
      refine best_none fun d hdl hne => at_no d hdl (.inl fun h => ?_)
      have := h.at_zero
      omega
    · have hb0' : (b : Int) ≠ 0 := by omega
      obtain ⟨l1, l2⟩ := hr.ok.low _ (hp _ hbr) hb0'
      have lne : up (b : Int) ≠ (b : Int) := by
        intro e
        rw [e] at l2
        omega
      have lr := plB_rng h0 l1.1
      obtain ⟨u, hu⟩ := Int.eq_ofNat_of_zero_le lr.1
      have du : Dm (tg bs) (up (b : Int)) (b : Int) := hd _ _ hbr (.step hb0' (.refl _))
      rcases best_inv h0 hr.ok hp hd hb hbr bs.length (Nat.le_refl _) with ⟨_, h2⟩ | ⟨d, h1, h2, h3, h4, h5⟩
      · exact absurd (hu ▸ du) (h2 u (by omega) (fun e => lne (by rw [hu, e])))
      · rw [h1]
        have hne : (d : Int) ≠ (b : Int) := by omega
        have d1 : Dm (tg bs) (up (b : Int)) (d : Int) := by
          rw [hu]
          exact h5 u (by omega) (fun e => lne (by rw [hu, e])) (hu ▸ du)
        have hdr : 0 ≤ plB bs (d : Int) := (hP.reach _).2 (Dm.reach ((hP.reach _).1 hbr) h4)
        have d2 : Dm (tg bs) (d : Int) (up (b : Int)) := hr.ok.dom _ _ (hp _ hbr) hb0' h4 hne
        have q1 := Dm.le hP hdr d1
        have q2 := Dm.le hP l1.1 d2
        exact hP.inj _ _ hdr (by omega)
  · rw [hr.off _ (.inl (by omega))]
    exact best_none fun d hdl _ => at_no d hdl (.inr fun h => hbr ((hP.reach _).2 h))
end Go.Mor

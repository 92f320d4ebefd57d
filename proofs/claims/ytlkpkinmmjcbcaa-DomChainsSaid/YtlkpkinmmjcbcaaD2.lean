/-
  Going through blocks in depth: the walk that is told by a relation, and the two ways that programs take. No program in sight.
-/
import Derived.Test.YtlkpkinmmjcbcaaD0
namespace Go.Mor
open Go.RowKit

abbrev DSt := (Int → Bool) × List Int
def addS (S : Int → Bool) (t : Int) : Int → Bool := fun x => (x == t) || S x

/-- From a list of targets on: which were met, and in which order they were left. -/
inductive Kids (T : Int → List Int) : List Int → DSt → DSt → Prop where
  | nil {s} : Kids T [] s s
  | skip {t ts S o s'} : S t = true → Kids T ts (S, o) s' → Kids T (t :: ts) (S, o) s'
  | go {t ts S o s1 s'} : S t = false → Kids T (T t) (addS S t, o) s1 → Kids T ts (s1.1, s1.2 ++ [t]) s' → Kids T (t :: ts) (S, o) s'

theorem Kids.det {T : Int → List Int} {ts : List Int} {s s1 s2 : DSt} (h1 : Kids T ts s s1) (h2 : Kids T ts s s2) : s1 = s2 := by
  induction h1 generalizing s2 with
  | nil => cases h2; rfl
  | skip h _ ih =>
    cases h2 with
    | skip _ h' => exact ih h'
    | go h' _ _ => rw [h] at h'; cases h'
  | go h _ _ ih1 ih2 =>
    cases h2 with
    | skip h' _ => rw [h] at h'; cases h'
    | go _ ha hb =>
      have := ih1 ha
      subst this
      exact ih2 hb

theorem Kids.mono {T : Int → List Int} {ts : List Int} {s s' : DSt} (h : Kids T ts s s') : ∀ x, s.1 x = true → s'.1 x = true := by
  induction h with
  | nil => exact fun _ h => h
  | skip _ _ ih => exact ih
  | go _ _ _ ih1 ih2 => exact fun x hx => ih2 x (ih1 x (by have hx' := hx; simp only at hx'; simp [addS, hx']))

def kidsF (T : Int → List Int) : Nat → List Int → DSt → DSt
  | 0, _, s => s
  | _ + 1, [], s => s
  | f + 1, t :: ts, s => match s.1 t with
    | true => kidsF T f ts s
    | false => kidsF T f ts ((kidsF T f (T t) (addS s.1 t, s.2)).1, (kidsF T f (T t) (addS s.1 t, s.2)).2 ++ [t])

/-- How many were not met. -/
def unmet (n : Nat) (S : Int → Bool) : Nat := ((List.range n).filter (fun i : Nat => !S (i : Int))).length
theorem unmet_mono {n : Nat} {S S' : Int → Bool} (h : ∀ x, S x = true → S' x = true) : unmet n S' ≤ unmet n S := by
  unfold unmet
  refine List.Sublist.length_le ?_
  have : (List.range n).filter (fun i : Nat => !S' (i : Int)) = ((List.range n).filter (fun i : Nat => !S (i : Int))).filter (fun i : Nat => !S' (i : Int)) := by
    rw [List.filter_filter]
    apply List.filter_congr
    intro i _
    cases h1 : S (i : Int) <;> cases h2 : S' (i : Int) <;> simp
    rw [h _ h1] at h2
    cases h2
  rw [this]
  exact List.filter_sublist
theorem unmet_add {n : Nat} {S : Int → Bool} {t : Int} (h0 : 0 ≤ t) (h1 : t < n) (hS : S t = false) : unmet n (addS S t) + 1 ≤ unmet n S := by
  unfold unmet
  have hsub : (List.range n).filter (fun i : Nat => !addS S t (i : Int)) = ((List.range n).filter (fun i : Nat => !S (i : Int))).filter (fun i : Nat => !((i : Int) == t)) := by
    rw [List.filter_filter]
    apply List.filter_congr
    intro i _
    simp [addS]
  rw [hsub]
  obtain ⟨k, rfl⟩ := Int.eq_ofNat_of_zero_le h0
  have hmem : k ∈ (List.range n).filter (fun i : Nat => !S (i : Int)) := List.mem_filter.2 ⟨List.mem_range.2 (by omega), by rw [hS]; rfl⟩
  have := List.length_filter_lt_length_iff_exists (p := fun i : Nat => !((i : Int) == (k : Int))) |>.2 ⟨k, hmem, by simp⟩
  omega
theorem unmet_le (n : Nat) (S : Int → Bool) : unmet n S ≤ n := by
  unfold unmet
  exact Nat.le_trans (List.length_filter_le _ _) (by simp)

theorem kids_total {T : Int → List Int} {n : Nat} (hT : ∀ t, (T t).length ≤ 2) (hR : ∀ t x, x ∈ T t → 0 ≤ x ∧ x < n) : ∀ (f : Nat) (ts : List Int) (s : DSt), (∀ x, x ∈ ts → 0 ≤ x ∧ x < n) → 3 * unmet n s.1 + ts.length + 1 ≤ f →
    Kids T ts s (kidsF T f ts s) := by
  intro f
  induction f with
  | zero => intro ts s _ h; omega
  | succ f ih =>
    intro ts s hts hf
    obtain ⟨S, o⟩ := s
    cases ts with
    | nil => exact .nil
    | cons t ts =>
      have ht := hts t (List.mem_cons_self ..)
      have hts' : ∀ x, x ∈ ts → 0 ≤ x ∧ x < (n : Int) := fun x hx => hts x (List.mem_cons_of_mem _ hx)
      simp only [List.length_cons] at hf
      cases hS : S t with
      | true =>
        have : kidsF T (f + 1) (t :: ts) (S, o) = kidsF T f ts (S, o) := by simp only [kidsF, hS]
        rw [this]
        exact .skip hS (ih ts (S, o) hts' (by simp only at hf ⊢; omega))
      | false =>
        have e : kidsF T (f + 1) (t :: ts) (S, o) = kidsF T f ts ((kidsF T f (T t) (addS S t, o)).1, (kidsF T f (T t) (addS S t, o)).2 ++ [t]) := by simp only [kidsF, hS]
        rw [e]
        have hu := unmet_add (S := S) ht.1 ht.2 hS
        have h1 := ih (T t) (addS S t, o) (hR t) (by have := hT t; simp only at hf ⊢; omega)
        refine .go hS h1 (ih ts _ hts' ?_)
        have hm := unmet_mono (n := n) (Kids.mono h1)
        simp only at hf hm ⊢
        omega

/-- What is left grows no more than what was not met. -/
theorem Kids.count {T : Int → List Int} {n : Nat} (hR : ∀ t x, x ∈ T t → 0 ≤ x ∧ x < n) {ts : List Int} {s s' : DSt} (h : Kids T ts s s') (hts : ∀ x, x ∈ ts → 0 ≤ x ∧ x < (n : Int)) :
    s'.2.length + unmet n s'.1 ≤ s.2.length + unmet n s.1 := by
  induction h with
  | nil => exact Nat.le_refl _
  | skip _ _ ih => exact ih (fun x hx => hts x (List.mem_cons_of_mem _ hx))
  | @go t ts S o s1 s' hS _ _ ih1 ih2 =>
    have ht := hts t (List.mem_cons_self ..)
    have h1 := ih1 (hR t)
    have h2 := ih2 (fun x hx => hts x (List.mem_cons_of_mem _ hx))
    have h3 := unmet_add (S := S) ht.1 ht.2 hS
    simp only [List.length_append, List.length_cons, List.length_nil] at h1 h2 ⊢
    omega

/-- The order in which the blocks are left for good, block 0 the last. -/
def leftL (bs : List SB) : List Int := (kidsF (tg bs) (3 * bs.length + 3) (tg bs 0) (addS (fun _ => false) 0, [])).2 ++ [0]
def orderL (bs : List SB) : List Int := if bs.length = 0 then [] else (leftL bs).reverse
theorem left_kids (bs : List SB) : ∃ s, Kids (tg bs) (tg bs 0) (addS (fun _ => false) 0, []) s ∧ s.2 ++ [0] = leftL bs := by
  refine ⟨_, kids_total (n := bs.length) (fun t => tg_len bs t) (fun t x h => tg_mem h) (3 * bs.length + 3) _ _ (fun x h => tg_mem h) ?_, rfl⟩
  have h1 := tg_len bs 0
  have h2 := unmet_le bs.length (addS (fun _ => false) 0)
  simp only
  by_cases h : bs.length = 0
  · have : tg bs 0 = [] := tg_out (by omega)
    rw [this]
    simp
    omega
  · have := unmet_add (n := bs.length) (S := fun _ => false) (t := 0) (by omega) (by omega) rfl
    have h3 := unmet_le bs.length (fun _ => false)
    omega

theorem leftL_len {bs : List SB} (h : 0 < bs.length) : (leftL bs).length ≤ bs.length := by
  obtain ⟨s, h1, h2⟩ := left_kids bs
  have h3 := Kids.count (n := bs.length) (fun t x h => tg_mem h) h1 (fun x h => tg_mem h)
  have h4 := unmet_add (n := bs.length) (S := fun _ => false) (t := 0) (by omega) (by omega) rfl
  have h5 := unmet_le bs.length (fun _ => false)
  rw [← h2, List.length_append]
  simp only [List.length_nil, List.length_cons] at h3 ⊢
  omega

/-! ### the way by a stack -/
/-- What comes out, if the stack is worked off. -/
def Fin_ (T : Int → List Int) : List (Int × Nat) → DSt → List Int → Prop
  | [], s, R => s.2 = R
  | (b, k) :: rest, s, R => ∃ s', Kids T ((T b).drop k) s s' ∧ Fin_ T rest (s'.1, s'.2 ++ [b]) R

theorem fin_pop {T : Int → List Int} {b : Int} {k : Nat} {rest : List (Int × Nat)} {s : DSt} {R : List Int} (h : Fin_ T ((b, k) :: rest) s R) (hk : (T b).length ≤ k) : Fin_ T rest (s.1, s.2 ++ [b]) R := by
  obtain ⟨s', h1, h2⟩ := h
  rw [List.drop_of_length_le hk] at h1
  cases h1
  exact h2
theorem fin_skip {T : Int → List Int} {b t : Int} {k : Nat} {rest : List (Int × Nat)} {S : Int → Bool} {o : List Int} {R : List Int} (h : Fin_ T ((b, k) :: rest) (S, o) R) (hk : (T b)[k]? = some t) (ht : S t = true) : Fin_ T ((b, k + 1) :: rest) (S, o) R := by
  obtain ⟨s', h1, h2⟩ := h
  obtain ⟨hlt, he⟩ := List.getElem?_eq_some_iff.1 hk
  rw [List.drop_eq_getElem_cons hlt, he] at h1
  cases h1 with
  | skip _ h1 => exact ⟨s', h1, h2⟩
  | go h' _ _ => rw [ht] at h'; cases h'
theorem fin_push {T : Int → List Int} {b t : Int} {k : Nat} {rest : List (Int × Nat)} {S : Int → Bool} {o : List Int} {R : List Int} (h : Fin_ T ((b, k) :: rest) (S, o) R) (hk : (T b)[k]? = some t) (ht : S t = false) :
    Fin_ T ((t, 0) :: (b, k + 1) :: rest) (addS S t, o) R := by
  obtain ⟨s', h1, h2⟩ := h
  obtain ⟨hlt, he⟩ := List.getElem?_eq_some_iff.1 hk
  rw [List.drop_eq_getElem_cons hlt, he] at h1
  cases h1 with
  | skip h' _ => rw [ht] at h'; cases h'
  | go _ ha hb => exact ⟨_, by simpa using ha, ⟨s', hb, h2⟩⟩

theorem kids_skip {T : Int → List Int} {b t : Int} {k : Nat} {S : Int → Bool} {o : List Int} {s1 : DSt} (h : Kids T ((T b).drop k) (S, o) s1) (hk : (T b)[k]? = some t) (ht : S t = true) : Kids T ((T b).drop (k + 1)) (S, o) s1 := by
  obtain ⟨hlt, he⟩ := List.getElem?_eq_some_iff.1 hk
  rw [List.drop_eq_getElem_cons hlt, he] at h
  cases h with
  | skip _ h1 => exact h1
  | go h' _ _ => rw [ht] at h'; cases h'
theorem kids_go {T : Int → List Int} {b t : Int} {k : Nat} {S : Int → Bool} {o : List Int} {s1 : DSt} (h : Kids T ((T b).drop k) (S, o) s1) (hk : (T b)[k]? = some t) (ht : S t = false) :
    ∃ s2 : DSt, Kids T (T t) (addS S t, o) s2 ∧ Kids T ((T b).drop (k + 1)) (s2.1, s2.2 ++ [t]) s1 := by
  obtain ⟨hlt, he⟩ := List.getElem?_eq_some_iff.1 hk
  rw [List.drop_eq_getElem_cons hlt, he] at h
  cases h with
  | skip h' _ => rw [ht] at h'; cases h'
  | go _ ha hb => exact ⟨_, ha, hb⟩
theorem kids_end {T : Int → List Int} {b : Int} {k : Nat} {s s1 : DSt} (h : Kids T ((T b).drop k) s s1) (hk : (T b).length ≤ k) : s = s1 := by
  rw [List.drop_of_length_le hk] at h
  cases h
  rfl
def bools (l : List Bool) : List Value := l.map Value.bool
theorem bools_get {l : List Bool} {i : Nat} (h : i < l.length) : (bools l)[i]? = some (.bool (l.getD i false)) := by simp [bools, List.getD, h]
theorem bools_len (l : List Bool) : (bools l).length = l.length := by simp [bools]
theorem bools_set (l : List Bool) (i : Nat) (v : Bool) : bools (l.set i v) = (bools l).set i (.bool v) := by simp [bools, List.map_set]
def BoolsOf (n : Nat) (l : List Bool) (S : Int → Bool) : Prop := l.length = n ∧ ∀ i : Nat, i < n → l.getD i false = S (i : Int)
theorem BoolsOf.start (n : Nat) : BoolsOf n (List.replicate n false) (fun _ => false) := ⟨by simp, fun i hi => by simp [List.getD, hi]⟩
theorem BoolsOf.put {n : Nat} {l : List Bool} {S : Int → Bool} (h : BoolsOf n l S) {i : Nat} (_hi : i < n) : BoolsOf n (l.set i true) (addS S (i : Int)) := by
  refine ⟨by simp [h.1], fun j hj => ?_⟩
  unfold addS
  by_cases e : i = j
  · subst e
    have : i < l.length := by rw [h.1]; exact hj
    simp [List.getD, this]
  · have e2 : ¬ ((j : Int) = (i : Int)) := by omega
    rw [← h.2 j hj]
    simp [List.getD, List.getElem?_set_ne e, e2]

/-! ### the stack in memory, the words that tell what was met -/
def stepC (p : Int × Nat) : List Value := [.int .i64 p.1, .int .i64 (p.2 : Int)]
/-- The stack's cells, its top the last. -/
def stkC (st : List (Int × Nat)) : List Value := st.reverse.flatMap stepC
theorem stkC_cons (p : Int × Nat) (st : List (Int × Nat)) : stkC (p :: st) = stkC st ++ stepC p := by simp [stkC]
theorem stkC_len (st : List (Int × Nat)) : (stkC st).length = st.length * 2 := by
  induction st with
  | nil => rfl
  | cons p st ih => rw [stkC_cons, List.length_append, ih]; simp [stepC]; omega
theorem stk_top {b : Int} {k : Nat} {st : List (Int × Nat)} : (stkC ((b, k) :: st))[st.length * 2]? = some (.int .i64 b) ∧ (stkC ((b, k) :: st))[st.length * 2 + 1]? = some (.int .i64 (k : Int)) := by
  rw [stkC_cons, ← stkC_len]
  constructor
  · rw [List.getElem?_append_right (Nat.le_refl _)]; simp [stepC]
  · rw [List.getElem?_append_right (by omega)]; simp [stepC]
theorem stk_pop {b : Int} {k : Nat} {st : List (Int × Nat)} : (stkC ((b, k) :: st)).take (st.length * 2) = stkC st := by
  rw [stkC_cons, ← stkC_len, List.take_left]
theorem stk_inc {b : Int} {k : Nat} {st : List (Int × Nat)} : (stkC ((b, k) :: st)).set (st.length * 2 + 1) (.int .i64 ((k : Int) + 1)) = stkC ((b, k + 1) :: st) := by
  rw [stkC_cons, stkC_cons, ← stkC_len, List.set_append_right _ _ (by omega)]
  simp [stepC]

/-- The words tell just what was met. -/
structure Met (n : Nat) (ws : List Nat) (S : Int → Bool) : Prop where
  len : ws.length = (n + 63) / 64
  fit : Fit ws
  bits : ∀ i : Nat, i < n → tb ws i = S (i : Int)
theorem Met.start (n : Nat) : Met n (List.replicate ((n + 63) / 64) 0) (fun _ => false) := ⟨by simp, Fit.zero _, fun i _ => tb_zero _ i⟩
theorem Met.put {n : Nat} {ws : List Nat} {S : Int → Bool} (h : Met n ws S) {i : Nat} (hi : i < n) : Met n (putw ws i) (addS S (i : Int)) := by
  refine ⟨by simp [putw, h.len], h.fit.put i, fun j hj => ?_⟩
  rw [tb_put (by rw [h.len]; omega), h.bits j hj]
  unfold addS
  congr 1
  by_cases e : i = j
  · subst e; simp
  · have : ¬ ((j : Int) = (i : Int)) := by omega
    simp [e, this]
theorem Met.idx {n : Nat} {ws : List Nat} {S : Int → Bool} (h : Met n ws S) {i : Nat} (hi : i < n) : i / 64 < ws.length := by rw [h.len]; omega

/-- How much is left to do. -/
def wsum (T : Int → List Int) : List (Int × Nat) → Nat
  | [] => 0
  | (b, k) :: r => ((T b).length - k + 1) + wsum T r
def WayOk (T : Int → List Int) (st : List (Int × Nat)) : Prop := ∀ p, p ∈ st → p.2 ≤ (T p.1).length

theorem way_one (T : Int → List Int) (b : Int) : WayOk T [(b, 0)] := by
  intro p hp
  simp only [List.mem_singleton] at hp
  subst hp
  exact Nat.zero_le _
theorem way_push {T : Int → List Int} {b t : Int} {k : Nat} {r : List (Int × Nat)} (h : WayOk T ((b, k) :: r)) (hk : k + 1 ≤ (T b).length) : WayOk T ((t, 0) :: (b, k + 1) :: r) := by
  intro p hp
  rcases List.mem_cons.1 hp with rfl | hp
  · exact Nat.zero_le _
  · rcases List.mem_cons.1 hp with rfl | hp
    · exact hk
    · exact h p (List.mem_cons_of_mem _ hp)
theorem way_inc {T : Int → List Int} {b : Int} {k : Nat} {r : List (Int × Nat)} (h : WayOk T ((b, k) :: r)) (hk : k + 1 ≤ (T b).length) : WayOk T ((b, k + 1) :: r) := by
  intro p hp
  rcases List.mem_cons.1 hp with rfl | hp
  · exact hk
  · exact h p (List.mem_cons_of_mem _ hp)
theorem tg_at {bs : List SB} {b : Int} {k : Nat} (h : k < (tg bs b).length) : ∃ ti : Nat, (tg bs b)[k]? = some (ti : Int) ∧ ti < bs.length := by
  have h1 := tg_mem (List.getElem_mem h)
  obtain ⟨ti, he⟩ := Int.eq_ofNat_of_zero_le h1.1
  exact ⟨ti, by rw [List.getElem?_eq_getElem h, he], by omega⟩

/-! ### a list turned round in its place -/
def Swapped (l m : List Int) (k : Nat) : Prop := m.length = l.length ∧ ∀ p, p < l.length → m.getD p 0 = if p < k ∨ l.length ≤ p + k then l.getD (l.length - 1 - p) 0 else l.getD p 0
theorem swapped_start (l : List Int) : Swapped l l 0 := ⟨rfl, fun p hp => by rw [if_neg (by omega)]⟩
theorem getD_set {m : List Int} {i p : Nat} {v : Int} (hi : i < m.length) : (m.set i v).getD p 0 = if i = p then v else m.getD p 0 := by
  by_cases h : i = p
  · subst h; simp [List.getD, hi]
  · simp [List.getD, List.getElem?_set_ne h, h]
theorem swapped_next {l m : List Int} {k q : Nat} (h : Swapped l m k) (hq : k < q ∧ q + k + 1 = l.length) : Swapped l ((m.set k (m.getD q 0)).set q (m.getD k 0)) (k + 1) := by
  obtain ⟨h1, h2⟩ := h
  refine ⟨by simp [h1], fun p hp => ?_⟩
  rw [getD_set (by simp; omega), getD_set (by omega)]
  by_cases e1 : q = p
  · subst e1
    rw [if_pos rfl, if_pos (by omega), h2 k (by omega), if_neg (by omega), show l.length - 1 - q = k by omega]
  · rw [if_neg e1]
    by_cases e2 : k = p
    · subst e2
      rw [if_pos rfl, if_pos (by omega), h2 q (by omega), if_neg (by omega), show l.length - 1 - k = q by omega]
    · rw [if_neg e2, h2 p hp]
      by_cases e3 : p < k ∨ l.length ≤ p + k
      · rw [if_pos e3, if_pos (by omega)]
      · rw [if_neg e3, if_neg (by omega)]
theorem swapped_end {l m : List Int} {k : Nat} (h : Swapped l m k) (hk : 2 * k ≤ l.length ∧ l.length ≤ 2 * k + 1) : m = l.reverse := by
  obtain ⟨h1, h2⟩ := h
  apply List.ext_getElem?
  intro p
  by_cases hp : p < l.length
  · have h3 := h2 p hp
    have e : ∀ x : List Int, p < x.length → x[p]? = some (x.getD p 0) := by
      intro x hx
      simp [List.getD, hx]
    rw [e m (by omega), e l.reverse (by simpa using hp), h3]
    have e4 : l.reverse.getD p 0 = l.getD (l.length - 1 - p) 0 := by
      simp [List.getD, List.getElem?_reverse hp]
    rw [e4]
    split
    · rfl
    · rw [show l.length - 1 - p = p by omega]
  · rw [List.getElem?_eq_none (by omega), List.getElem?_eq_none (by simp; omega)]
end Go.Mor

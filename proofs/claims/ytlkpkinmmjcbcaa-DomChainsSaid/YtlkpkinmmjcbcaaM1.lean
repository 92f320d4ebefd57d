/-
  What is reached from block 0: by the walk in depth, by the walk in breadth, and by definition. No program in sight.
-/
import Derived.Test.YtlkpkinmmjcbcaaD2
import Derived.Test.YtlkpkinmmjcbcaaL10
namespace Go.Mor
open Go.RowKit

/-- What is come to from 0. -/
inductive Reach (T : Int → List Int) : Int → Prop
  | zero : Reach T 0
  | step {x t : Int} : Reach T x → t ∈ T x → Reach T t

/-- The ways without one block. -/
def tgb (T : Int → List Int) (bar : Int) (x : Int) : List Int := (T x).filter (fun t => !(t == bar))
theorem mem_tgb {T : Int → List Int} {bar x t : Int} : t ∈ tgb T bar x ↔ t ∈ T x ∧ t ≠ bar := by simp [tgb]
theorem tgb_len {T : Int → List Int} (hT : ∀ t, (T t).length ≤ 2) (bar : Int) (t : Int) : (tgb T bar t).length ≤ 2 := Nat.le_trans (List.length_filter_le _ _) (hT t)

theorem kids_closed {T : Int → List Int} {ts : List Int} {s s' : DSt} (h : Go.Mor.Kids T ts s s') :
    (∀ x, x ∈ ts → s'.1 x = true) ∧ (∀ x, s'.1 x = true → s.1 x = true ∨ ∀ t, t ∈ T x → s'.1 t = true) := by
  induction h with
  | nil => exact ⟨fun x hx => (List.not_mem_nil hx).elim, fun x hx => .inl hx⟩
  | @skip t ts S o s' hS h ih =>
    refine ⟨fun x hx => ?_, ih.2⟩
    rcases List.mem_cons.1 hx with rfl | hx
    · exact Kids.mono h _ hS
    · exact ih.1 x hx
  | @go t ts S o s1 s' hS h1 h2 ih1 ih2 =>
    have m1 := Kids.mono h1
    have m2 := Kids.mono h2
    have ht : s1.1 t = true := m1 t (by simp [addS])
    refine ⟨fun x hx => ?_, fun x hx => ?_⟩
    · rcases List.mem_cons.1 hx with rfl | hx
      · exact m2 _ ht
      · exact ih2.1 x hx
    · rcases ih2.2 x hx with hx | hx
      · rcases ih1.2 x hx with hx | hx
        · by_cases e : x = t
          · subst e
            exact .inr fun y hy => m2 y (ih1.1 y hy)
          · left
            have : (x == t || S x) = true := hx
            simpa [e] using this
        · exact .inr fun y hy => m2 y (hx y hy)
      · exact .inr hx

theorem kids_reach {T : Int → List Int} {ts : List Int} {s s' : DSt} (h : Go.Mor.Kids T ts s s') (hts : ∀ x, x ∈ ts → Reach T x) (hs : ∀ x, s.1 x = true → Reach T x) : ∀ x, s'.1 x = true → Reach T x := by
  induction h with
  | nil => exact hs
  | skip _ _ ih => exact ih (fun x hx => hts x (List.mem_cons_of_mem _ hx)) hs
  | @go t ts S o s1 s' hS h1 h2 ih1 ih2 =>
    have ht := hts t (List.mem_cons_self ..)
    refine ih2 (fun x hx => hts x (List.mem_cons_of_mem _ hx)) (ih1 (fun x hx => .step ht hx) (fun x hx => ?_))
    have hx : (x == t || S x) = true := hx
    by_cases e : x = t
    · exact e ▸ ht
    · exact hs x (by simpa [e] using hx)

/-- What comes out behind: the new ones, once each, each ahead of one that it comes from (but the first ones). -/
theorem kids_new {T : Int → List Int} {ts : List Int} {s s' : DSt} (h : Go.Mor.Kids T ts s s') : ∃ nw, s'.2 = s.2 ++ nw ∧ (∀ x, s'.1 x = true ↔ s.1 x = true ∨ x ∈ nw) ∧ nw.Nodup ∧ (∀ x, x ∈ nw → s.1 x = false) ∧
    (∀ l1 x l2, nw = l1 ++ x :: l2 → x ∈ ts ∨ ∃ y, y ∈ l2 ∧ x ∈ T y) := by
  induction h with
  | nil => exact ⟨[], by simp, by simp, by simp, by simp, by simp⟩
  | @skip t ts S o s' hS h ih =>
    obtain ⟨nw, h1, h2, h3, h4, h5⟩ := ih
    exact ⟨nw, h1, h2, h3, h4, fun l1 x l2 e => (h5 l1 x l2 e).imp (fun h => List.mem_cons_of_mem _ h) id⟩
  | @go t ts S o s1 s' hS h1 h2 ih1 ih2 =>
    obtain ⟨n1, a1, a2, a3, a4, a5⟩ := ih1
    obtain ⟨n2, b1, b2, b3, b4, b5⟩ := ih2
    have a2' : ∀ x, s1.1 x = true ↔ (S x = true ∨ x = t) ∨ x ∈ n1 := by
      intro x
      rw [a2 x]
      have : (addS S t x = true) ↔ (S x = true ∨ x = t) := by simp [addS, or_comm]
      exact or_congr this Iff.rfl
    have b4' : ∀ x, x ∈ n2 → S x = false ∧ x ≠ t ∧ x ∉ n1 := by
      intro x hx
      have h0 : s1.1 x = false := b4 x hx
      have : ¬ s1.1 x = true := by rw [h0]; simp
      rw [a2' x] at this
      refine ⟨by simpa using fun h => this (.inl (.inl h)), fun h => this (.inl (.inr h)), fun h => this (.inr h)⟩
    have a4' : ∀ x, x ∈ n1 → S x = false ∧ x ≠ t := by
      intro x hx
      have h0 := a4 x hx
      have : ¬ (addS S t x = true) := by
        have h0 : addS S t x = false := h0
        rw [h0]; simp
      have h3 : ¬ (x = t ∨ S x = true) := by simpa [addS] using this
      exact ⟨by simpa using fun h => h3 (.inr h), fun h => h3 (.inl h)⟩
    refine ⟨n1 ++ t :: n2, ?_, ?_, ?_, ?_, ?_⟩
    · rw [b1]
      simp only [a1]
      simp
    · intro x
      rw [b2 x]
      have := a2' x
      simp only [this, List.mem_append, List.mem_cons]
      constructor
      · rintro (((h | h) | h) | h)
        · exact .inl h
        · exact .inr (.inr (.inl h))
        · exact .inr (.inl h)
        · exact .inr (.inr (.inr h))
      · rintro (h | h | h | h)
        · exact .inl (.inl (.inl h))
        · exact .inl (.inr h)
        · exact .inl (.inl (.inr h))
        · exact .inr h
    · rw [List.nodup_append]
      refine ⟨a3, List.nodup_cons.2 ⟨fun h => (b4' t h).2.1 rfl, b3⟩, fun x hx y hy => ?_⟩
      rcases List.mem_cons.1 hy with rfl | hy
      · exact (a4' x hx).2
      · rintro rfl
        exact (b4' x hy).2.2 hx
    · intro x hx
      rcases List.mem_append.1 hx with hx | hx
      · exact (a4' x hx).1
      · rcases List.mem_cons.1 hx with rfl | hx
        · exact hS
        · exact (b4' x hx).1
    · intro l1 x l2 e
      rcases List.append_eq_append_iff.1 e with ⟨p, e1, e2⟩ | ⟨p, e1, e2⟩
      · -- x behind n1
        cases p with
        | nil =>
          simp only [List.nil_append, List.cons.injEq] at e2
          exact .inl (by rw [← e2.1]; exact List.mem_cons_self ..)
        | cons q p =>
          simp only [List.cons_append, List.cons.injEq] at e2
          rcases b5 p x l2 e2.2 with h | ⟨y, hy, h⟩
          · exact .inl (List.mem_cons_of_mem _ h)
          · exact .inr ⟨y, hy, h⟩
      · cases p with
        | nil =>
          simp only [List.nil_append, List.cons.injEq] at e2
          exact .inl (by rw [e2.1]; exact List.mem_cons_self ..)
        | cons q p =>
          simp only [List.cons_append, List.cons.injEq] at e2
          obtain ⟨rfl, e2⟩ := e2
          right
          rcases a5 l1 x p e1 with h | ⟨y, hy, h⟩
          · exact ⟨t, by rw [e2]; simp, h⟩
          · exact ⟨y, by rw [e2]; simp [hy], h⟩

/-- What is met, by the walk in depth. -/
def metF (T : Int → List Int) (n : Nat) : Int → Bool := (kidsF T (3 * n + 3) (T 0) (addS (fun _ => false) 0, [])).1
theorem met_kids {T : Int → List Int} {n : Nat} (hT : ∀ t, (T t).length ≤ 2) (hR : ∀ t x, x ∈ T t → 0 ≤ x ∧ x < n) : ∃ s, Go.Mor.Kids T (T 0) (addS (fun _ => false) 0, []) s ∧ s.1 = metF T n := by
  refine ⟨_, kids_total (n := n) hT hR (3 * n + 3) _ _ (fun x h => hR 0 x h) ?_, rfl⟩
  have h1 := hT 0
  have h2 := unmet_le n (addS (fun _ => false) 0)
  simp only
  by_cases h : n = 0
  · have : T 0 = [] := by
      cases h3 : T 0 with
      | nil => rfl
      | cons x l => have := hR 0 x (by rw [h3]; exact List.mem_cons_self ..); omega
    rw [this]
    simp
    omega
  · have := unmet_add (n := n) (S := fun _ => false) (t := 0) (by omega) (by omega) rfl
    have h3 := unmet_le n (fun _ => false)
    omega
theorem kids_zero {T : Int → List Int} {s : DSt} (h : Go.Mor.Kids T (T 0) (addS (fun _ => false) 0, []) s) (x : Int) : s.1 x = true ↔ Reach T x := by
  constructor
  · refine kids_reach h (fun x hx => .step .zero hx) (fun x hx => ?_) x
    have : x = 0 := by simpa [addS] using hx
    exact this ▸ .zero
  · obtain ⟨c1, c2⟩ := kids_closed h
    have h0 : s.1 0 = true := Kids.mono h 0 (by simp [addS])
    intro hr
    induction hr with
    | zero => exact h0
    | @step x t _ ht ih =>
      rcases c2 x ih with hx | hx
      · have : x = 0 := by simpa [addS] using hx
        exact c1 t (this ▸ ht)
      · exact hx t ht
theorem met_reach {T : Int → List Int} {n : Nat} (hT : ∀ t, (T t).length ≤ 2) (hR : ∀ t x, x ∈ T t → 0 ≤ x ∧ x < n) (x : Int) : metF T n x = true ↔ Reach T x := by
  obtain ⟨s, h, e⟩ := met_kids hT hR
  rw [← e]
  exact kids_zero h x
theorem reach_in {T : Int → List Int} {n : Nat} (hn : 0 < n) (hR : ∀ t x, x ∈ T t → 0 ≤ x ∧ x < (n : Int)) {x : Int} (h : Reach T x) : 0 ≤ x ∧ x < n := by
  cases h with
  | zero => omega
  | step _ ht => exact hR _ _ ht

/-- Which are come to without coming through one. -/
def walkB (bs : List SB) (bar : Int) (x : Int) : Bool := !(bar == 0) && metF (tgb (tg bs) bar) bs.length x
def walkL (bs : List SB) (bar : Int) : List Bool := (List.range bs.length).map (fun i : Nat => walkB bs bar (i : Int))
theorem walkL_len (bs : List SB) (bar : Int) : (walkL bs bar).length = bs.length := by simp [walkL]
theorem walkL_get {bs : List SB} {bar : Int} {i : Nat} (h : i < bs.length) : (walkL bs bar).getD i false = walkB bs bar (i : Int) := by
  simp [walkL, List.getD, h]
theorem walkB_reach (bs : List SB) (bar : Int) (x : Int) : walkB bs bar x = true ↔ bar ≠ 0 ∧ Reach (tgb (tg bs) bar) x := by
  unfold walkB
  rw [Bool.and_eq_true, met_reach (fun t => tgb_len (fun t => tg_len bs t) bar t) (fun t x h => tg_mem (mem_tgb.1 h).1) x]
  simp
theorem bools_ext {n : Nat} {l : List Bool} {S : Int → Bool} (h : BoolsOf n l S) {m : List Bool} (hm : m.length = n) (hg : ∀ i : Nat, i < n → m.getD i false = S (i : Int)) : l = m := by
  apply List.ext_getElem?
  intro i
  by_cases hi : i < n
  · have h1 := h.2 i hi
    have h2 := hg i hi
    have e1 : i < l.length := by rw [h.1]; exact hi
    have e2 : i < m.length := by rw [hm]; exact hi
    simp only [List.getD, List.getElem?_eq_getElem e1, List.getElem?_eq_getElem e2, Option.getD_some] at h1 h2 ⊢
    rw [h1, h2]
  · rw [List.getElem?_eq_none (by rw [h.1]; omega), List.getElem?_eq_none (by rw [hm]; omega)]

/-- The walk in breadth. -/
structure BFS (T : Int → List Int) (bar : Int) (S : Int → Bool) (todo : List Int) (i k : Nat) : Prop where
  mem : ∀ x, S x = true ↔ x ∈ todo
  reach : ∀ x, x ∈ todo → Reach (tgb T bar) x
  zero : (0 : Int) ∈ todo
  done : ∀ j x, j < i → todo[j]? = some x → ∀ t, t ∈ T x → t ≠ bar → t ∈ todo
  part : ∀ x, todo[i]? = some x → ∀ t, t ∈ (T x).take k → t ≠ bar → t ∈ todo
theorem BFS.start (T : Int → List Int) (bar : Int) : BFS T bar (addS (fun _ => false) 0) [0] 0 0 := by
  refine ⟨fun x => by simp [addS], fun x hx => ?_, by simp, fun j x h => by omega, fun x _ t h => by simp at h⟩
  have : x = 0 := by simpa using hx
  exact this ▸ .zero
theorem BFS.skip {T : Int → List Int} {bar : Int} {S : Int → Bool} {todo : List Int} {i k : Nat} {b t : Int} (h : BFS T bar S todo i k) (hi : todo[i]? = some b) (hk : (T b)[k]? = some t) (ht : S t = true ∨ t = bar) : BFS T bar S todo i (k + 1) := by
  refine ⟨h.mem, h.reach, h.zero, h.done, fun x hx y hy hne => ?_⟩
  rw [hi] at hx
  injection hx with hx
  subst hx
  obtain ⟨hlt, he⟩ := List.getElem?_eq_some_iff.1 hk
  rw [List.take_succ_eq_append_getElem hlt, he] at hy
  rcases List.mem_append.1 hy with hy | hy
  · exact h.part b hi y hy hne
  · have : y = t := by simpa using hy
    subst this
    rcases ht with ht | ht
    · exact (h.mem y).1 ht
    · exact (hne ht).elim
theorem BFS.push {T : Int → List Int} {bar : Int} {S : Int → Bool} {todo : List Int} {i k : Nat} {b t : Int} (h : BFS T bar S todo i k) (hi : todo[i]? = some b) (hk : (T b)[k]? = some t) (ht : t ≠ bar) : BFS T bar (addS S t) (todo ++ [t]) i (k + 1) := by
  have hlt : i < todo.length := (List.getElem?_eq_some_iff.1 hi).1
  obtain ⟨hlk, he⟩ := List.getElem?_eq_some_iff.1 hk
  refine ⟨fun x => ?_, fun x hx => ?_, List.mem_append_left _ h.zero, fun j x hj hx y hy hne => ?_, fun x hx y hy hne => ?_⟩
  · have := h.mem x
    simp [addS, this, or_comm]
  · rcases List.mem_append.1 hx with hx | hx
    · exact h.reach x hx
    · have : x = t := by simpa using hx
      subst this
      exact .step (h.reach b (List.mem_of_getElem? hi)) (mem_tgb.2 ⟨List.mem_of_getElem? hk, ht⟩)
  · rw [List.getElem?_append_left (by omega)] at hx
    exact List.mem_append_left _ (h.done j x hj hx y hy hne)
  · rw [List.getElem?_append_left hlt, hi] at hx
    injection hx with hx
    subst hx
    rw [List.take_succ_eq_append_getElem hlk, he] at hy
    rcases List.mem_append.1 hy with hy | hy
    · exact List.mem_append_left _ (h.part b hi y hy hne)
    · exact List.mem_append_right _ hy
theorem BFS.next {T : Int → List Int} {bar : Int} {S : Int → Bool} {todo : List Int} {i k : Nat} {b : Int} (h : BFS T bar S todo i k) (hi : todo[i]? = some b) (hk : (T b).length ≤ k) : BFS T bar S todo (i + 1) 0 := by
  refine ⟨h.mem, h.reach, h.zero, fun j x hj hx y hy hne => ?_, fun x _ y hy => by simp at hy⟩
  by_cases e : j = i
  · subst e
    rw [hi] at hx
    injection hx with hx
    subst hx
    exact h.part b hi y (by rw [List.take_of_length_le hk]; exact hy) hne
  · exact h.done j x (by omega) hx y hy hne
theorem BFS.fin {T : Int → List Int} {bar : Int} {S : Int → Bool} {todo : List Int} {i k : Nat} (h : BFS T bar S todo i k) (hi : todo.length ≤ i) (x : Int) : S x = true ↔ Reach (tgb T bar) x := by
  rw [h.mem x]
  refine ⟨h.reach x, fun hr => ?_⟩
  induction hr with
  | zero => exact h.zero
  | @step x t _ ht ih =>
    obtain ⟨ht, hne⟩ := mem_tgb.1 ht
    obtain ⟨j, hj, e⟩ := List.mem_iff_getElem.1 ih
    exact h.done j x (by omega) (by rw [List.getElem?_eq_getElem hj, e]) t ht hne
theorem walk_ret {bs : List SB} {bar : Int} {S : Int → Bool} {inl : List Bool} {todo : List Int} {i k : Nat} (hin : BoolsOf bs.length inl S) (h : BFS (tg bs) bar S todo i k) (hi : todo.length ≤ i) (hb : bar ≠ 0) : inl = walkL bs bar := by
  refine bools_ext hin (walkL_len _ _) (fun j hj => ?_)
  rw [walkL_get hj, Bool.eq_iff_iff, walkB_reach, h.fin hi]
  exact ⟨fun h => h.2, fun h => ⟨hb, h⟩⟩
theorem walk_none {bs : List SB} {bar : Int} (h : bs.length = 0 ∨ bar = 0) : List.replicate bs.length false = walkL bs bar := by
  refine bools_ext (BoolsOf.start bs.length) (walkL_len _ _) (fun j hj => ?_)
  rw [walkL_get hj]
  have : bar = 0 := by omega
  simp [walkB, this]
end Go.Mor

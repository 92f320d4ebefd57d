/-
  Slices of slices: the inner rows as one thing. Nothing of a program in sight.
-/
import Derived.Test.YtlkpkinmmjcbcaaL9
namespace Go.Mor
open Go.RowKit

structure RowV where
  A : Option Addr
  n : Nat
  c : Nat
  xs : List Value
def nilV : RowV := ⟨none, 0, 0, []⟩
def RowV.res (e : Nat) (r : RowV) : Res := .row e 1 r.A r.n r.c r.xs
/-- The inner slices, as the outer one's cells. -/
def slv (rows : List RowV) : List Value := rows.map (fun r => Value.slice r.A r.n r.c)
/-- Inner rows that lie apart. -/
def Res.fam (e : Nat) (rows : List RowV) : Res where
  fp := fun g => ∃ r, r ∈ rows ∧ (r.res e).fp g
  holds w := (∀ r, r ∈ rows → (r.res e).holds w) ∧ rows.Pairwise (fun (r s : RowV) => ∀ g : Nat, (r.res e).fp g → ¬ (s.res e).fp g)
  stable h hw := ⟨fun r hr => (r.res e).stable (fun g hg => h g ⟨r, hr, hg⟩) (hw.1 r hr), hw.2⟩
  lt := by
    rintro w g hw ⟨r, hr, hg⟩
    exact (r.res e).lt (hw.1 r hr) hg

theorem nil_fp {e : Nat} {g : Nat} : ¬ (nilV.res e).fp g := by
  rintro ⟨a, ha, _⟩
  cases ha
theorem nil_holds (e : Nat) (w : World) : (nilV.res e).holds w := row_nil w e 1
theorem fam_get {w : World} {e : Nat} {rows : List RowV} (h : (Res.fam e rows).holds w) {t : Nat} {r : RowV} (ht : rows[t]? = some r) : (Res.row e 1 r.A r.n r.c r.xs).holds w := h.1 r (List.mem_of_getElem? ht)
theorem slv_get {rows : List RowV} {t : Nat} {r : RowV} (ht : rows[t]? = some r) : (slv rows)[t]? = some (.slice r.A r.n r.c) := by simp [slv, ht]
theorem slv_len (rows : List RowV) : (slv rows).length = rows.length := by simp [slv]
theorem slv_set (rows : List RowV) (t : Nat) (r : RowV) : slv (rows.set t r) = (slv rows).set t (.slice r.A r.n r.c) := by simp [slv, List.map_set]
theorem slv_append (rows : List RowV) (r : RowV) : slv (rows ++ [r]) = slv rows ++ [.slice r.A r.n r.c] := by simp [slv]

theorem Mem.nilfam (w : World) (e n : Nat) : Mem noS w w [.fam e (List.replicate n nilV)] := by
  refine ⟨rfl, rfl, rfl, Nat.le_refl _, fun _ _ _ => rfl, ?_, List.pairwise_singleton _ _⟩
  simp only [List.mem_singleton]
  rintro _ rfl
  refine ⟨⟨fun r hr => by rw [List.eq_of_mem_replicate hr]; exact nil_holds e w, ?_⟩, fun g hg => ?_⟩
  · rw [List.pairwise_replicate]
    exact .inr (fun g hg => (nil_fp hg).elim)
  · obtain ⟨r, hr, hg⟩ := hg
    rw [List.eq_of_mem_replicate hr] at hg
    exact (nil_fp hg).elim

section
variable {S : Nat → Prop} {w0 w : World} {L : List Res}
/-- One inner row by itself. -/
theorem Mem.focus {e : Nat} {rows : List RowV} (h : Mem S w0 w (.fam e rows :: L)) (t : Nat) {r : RowV} (ht : rows[t]? = some r) : Mem S w0 w (.fam e (rows.set t nilV) :: .row e 1 r.A r.n r.c r.xs :: L) := by
  have hp := List.pairwise_cons.1 h.apart
  have hf := h.own _ (List.mem_cons_self ..)
  obtain ⟨⟨hh, hpw⟩, hS⟩ := hf
  have hr : r ∈ rows := List.mem_of_getElem? ht
  have hset : ∀ s, s ∈ rows.set t nilV → s = nilV ∨ ∃ j, j ≠ t ∧ rows[j]? = some s := by
    intro s hs
    obtain ⟨j, hj⟩ := List.mem_iff_getElem?.1 hs
    by_cases e1 : t = j
    · subst e1
      have hlt := (List.getElem?_eq_some_iff.1 ht).1
      rw [List.getElem?_set_self hlt] at hj
      injection hj with hj
      exact .inl hj.symm
    · rw [List.getElem?_set_ne e1] at hj
      exact .inr ⟨j, fun h => e1 h.symm, hj⟩
  have sym : ∀ x y : RowV, (∀ g, (x.res e).fp g → ¬ (y.res e).fp g) → ∀ g, (y.res e).fp g → ¬ (x.res e).fp g := fun x y h g hy hx => h g hx hy
  refine ⟨h.os, h.tape, h.output, h.size, h.kept, ?_, ?_⟩
  · intro q hq
    rcases List.mem_cons.1 hq with rfl | hq
    · refine ⟨⟨fun s hs => ?_, ?_⟩, fun g hg => ?_⟩
      · rcases hset s hs with rfl | ⟨j, _, hj⟩
        · exact nil_holds e w
        · exact hh s (List.mem_of_getElem? hj)
      · rw [List.pairwise_iff_getElem]
        intro i j hi hj hij g hg hg'
        have gi : (rows.set t nilV)[i]? = some (rows.set t nilV)[i] := List.getElem?_eq_getElem hi
        have gj : (rows.set t nilV)[j]? = some (rows.set t nilV)[j] := List.getElem?_eq_getElem hj
        generalize (rows.set t nilV)[i] = x at *
        generalize (rows.set t nilV)[j] = y at *
        have hlt := (List.getElem?_eq_some_iff.1 ht).1
        by_cases e1 : t = i
        · subst e1
          rw [List.getElem?_set_self hlt] at gi
          injection gi with gi
          subst gi
          exact nil_fp hg
        · by_cases e2 : t = j
          · subst e2
            rw [List.getElem?_set_self hlt] at gj
            injection gj with gj
            subst gj
            exact nil_fp hg'
          · rw [List.getElem?_set_ne e1] at gi
            rw [List.getElem?_set_ne e2] at gj
            exact pair_get sym hpw gi gj (by omega) g hg hg'
      · obtain ⟨s, hs, hg⟩ := hg
        rcases hset s hs with rfl | ⟨j, _, hj⟩
        · exact (nil_fp hg).elim
        · exact hS g ⟨s, List.mem_of_getElem? hj, hg⟩
    · rcases List.mem_cons.1 hq with rfl | hq
      · exact ⟨hh r hr, fun g hg => hS g ⟨r, hr, hg⟩⟩
      · exact h.own q (List.mem_cons_of_mem _ hq)
  · refine List.pairwise_cons.2 ⟨?_, List.pairwise_cons.2 ⟨?_, hp.2⟩⟩
    · rintro q hq g ⟨s, hs, hg⟩ hg'
      rcases hset s hs with rfl | ⟨j, hj, hs⟩
      · exact nil_fp hg
      · rcases List.mem_cons.1 hq with rfl | hq
        · exact pair_get sym hpw hs ht hj g hg hg'
        · exact hp.1 q hq g ⟨s, List.mem_of_getElem? hs, hg⟩ hg'
    · intro q hq g hg hg'
      exact hp.1 q hq g ⟨r, hr, hg⟩ hg'

/-- A row goes back among the inner ones. -/
theorem Mem.unfocus {e n c : Nat} {A : Option Addr} {xs : List Value} {rows : List RowV} (h : Mem S w0 w (.fam e rows :: .row e 1 A n c xs :: L)) (t : Nat) (ht : rows[t]? = some nilV) :
    Mem S w0 w (.fam e (rows.set t ⟨A, n, c, xs⟩) :: L) := by
  have hp := List.pairwise_cons.1 h.apart
  have hq := List.pairwise_cons.1 hp.2
  obtain ⟨⟨hh, hpw⟩, hS⟩ := h.own _ (List.mem_cons_self ..)
  have hr := h.own _ (List.mem_cons_of_mem _ (List.mem_cons_self ..))
  have hlt := (List.getElem?_eq_some_iff.1 ht).1
  have far : ∀ s, s ∈ rows → ∀ g, (s.res e).fp g → ¬ (Res.row e 1 A n c xs).fp g := fun s hs g hg => hp.1 _ (List.mem_cons_self ..) g ⟨s, hs, hg⟩
  have hset : ∀ s, s ∈ rows.set t ⟨A, n, c, xs⟩ → s = ⟨A, n, c, xs⟩ ∨ s ∈ rows := by
    intro s hs
    exact (List.mem_or_eq_of_mem_set hs).symm
  have sym : ∀ x y : RowV, (∀ g, (x.res e).fp g → ¬ (y.res e).fp g) → ∀ g, (y.res e).fp g → ¬ (x.res e).fp g := fun x y h g hy hx => h g hx hy
  refine ⟨h.os, h.tape, h.output, h.size, h.kept, ?_, List.pairwise_cons.2 ⟨?_, hq.2⟩⟩
  · intro q hq'
    rcases List.mem_cons.1 hq' with rfl | hq'
    · refine ⟨⟨fun s hs => ?_, ?_⟩, fun g hg => ?_⟩
      · rcases hset s hs with rfl | hs
        · exact hr.1
        · exact hh s hs
      · rw [List.pairwise_iff_getElem]
        intro i j hi hj hij g hg hg'
        have gi : (rows.set t ⟨A, n, c, xs⟩)[i]? = some (rows.set t ⟨A, n, c, xs⟩)[i] := List.getElem?_eq_getElem hi
        have gj : (rows.set t ⟨A, n, c, xs⟩)[j]? = some (rows.set t ⟨A, n, c, xs⟩)[j] := List.getElem?_eq_getElem hj
        generalize (rows.set t ⟨A, n, c, xs⟩)[i] = x at *
        generalize (rows.set t ⟨A, n, c, xs⟩)[j] = y at *
        by_cases e1 : t = i
        · subst e1
          rw [List.getElem?_set_self hlt] at gi
          injection gi with gi
          subst gi
          rw [List.getElem?_set_ne (by omega)] at gj
          exact far y (List.mem_of_getElem? gj) g hg' hg
        · rw [List.getElem?_set_ne e1] at gi
          by_cases e2 : t = j
          · subst e2
            rw [List.getElem?_set_self hlt] at gj
            injection gj with gj
            subst gj
            exact far x (List.mem_of_getElem? gi) g hg hg'
          · rw [List.getElem?_set_ne e2] at gj
            exact pair_get sym hpw gi gj (by omega) g hg hg'
      · obtain ⟨s, hs, hg⟩ := hg
        rcases hset s hs with rfl | hs
        · exact hr.2 g hg
        · exact hS g ⟨s, hs, hg⟩
    · exact h.own q (List.mem_cons_of_mem _ (List.mem_cons_of_mem _ hq'))
  · rintro q hq' g ⟨s, hs, hg⟩ hg'
    rcases hset s hs with rfl | hs
    · exact hq.1 q hq' g hg hg'
    · exact hp.1 q (List.mem_cons_of_mem _ hq') g ⟨s, hs, hg⟩ hg'

/-- A row comes behind the inner ones. -/
theorem Mem.push {e n c : Nat} {A : Option Addr} {xs : List Value} {rows : List RowV} (h : Mem S w0 w (.fam e rows :: .row e 1 A n c xs :: L)) : Mem S w0 w (.fam e (rows ++ [⟨A, n, c, xs⟩]) :: L) := by
  have hp := List.pairwise_cons.1 h.apart
  have hq := List.pairwise_cons.1 hp.2
  obtain ⟨⟨hh, hpw⟩, hS⟩ := h.own _ (List.mem_cons_self ..)
  have hr := h.own _ (List.mem_cons_of_mem _ (List.mem_cons_self ..))
  refine ⟨h.os, h.tape, h.output, h.size, h.kept, ?_, List.pairwise_cons.2 ⟨?_, hq.2⟩⟩
  · intro q hq'
    rcases List.mem_cons.1 hq' with rfl | hq'
    · refine ⟨⟨fun s hs => ?_, ?_⟩, fun g hg => ?_⟩
      · rcases List.mem_append.1 hs with hs | hs
        · exact hh s hs
        · simp only [List.mem_singleton] at hs
          subst hs
          exact hr.1
      · refine List.pairwise_append.2 ⟨hpw, List.pairwise_singleton _ _, fun s hs s' hs' g hg hg' => ?_⟩
        simp only [List.mem_singleton] at hs'
        subst hs'
        exact hp.1 _ (List.mem_cons_self ..) g ⟨s, hs, hg⟩ hg'
      · obtain ⟨s, hs, hg⟩ := hg
        rcases List.mem_append.1 hs with hs | hs
        · exact hS g ⟨s, hs, hg⟩
        · simp only [List.mem_singleton] at hs
          subst hs
          exact hr.2 g hg
    · exact h.own q (List.mem_cons_of_mem _ (List.mem_cons_of_mem _ hq'))
  · rintro q hq' g ⟨s, hs, hg⟩ hg'
    rcases List.mem_append.1 hs with hs | hs
    · exact hp.1 q (List.mem_cons_of_mem _ hq') g ⟨s, hs, hg⟩ hg'
    · simp only [List.mem_singleton] at hs
      subst hs
      exact hq.1 q hq' g hg hg'
end
end Go.Mor

/-
  What the functions of layer 18 reckon, in plain words; small laws on lists. No program in sight.
-/
import Derived.Test.YtlkpkinmmjcbcaaL9
namespace Go.Mor
open Go.RowKit

/-! ### blocks in memory -/
/-- A slice of things of so many cells each. -/
def Res.rds (A : Option Addr) (size : Nat) (css : List (List Value)) : Res where
  fp := fun k => (∃ i cs, css[i]? = some cs ∧ cs ≠ []) ∧ ∃ a, A = some a ∧ a.block = k
  holds w := ∀ i cs, css[i]? = some cs → ∃ ad, A = some ad ∧ ∀ j v, cs[j]? = some v → w.cell? ((ad.add (i * size)).add j) = some v
  stable := by
    intro w w' h hw i cs hi
    obtain ⟨a, ha, hc⟩ := hw i cs hi
    refine ⟨a, ha, fun j v hj => ?_⟩
    rw [← hc j v hj]
    refine World.cell?_of_block ?_
    rw [block_add, block_add]
    exact h a.block ⟨⟨i, cs, hi, by rintro rfl; simp at hj⟩, a, ha, rfl⟩
  lt := by
    rintro w k hw ⟨⟨i, cs, hi, hne⟩, a, rfl, rfl⟩
    obtain ⟨a', ha, hc⟩ := hw i cs hi
    injection ha with ha
    subst ha
    cases cs with
    | nil => exact absurd rfl hne
    | cons x cs =>
      have h0 := hc 0 x rfl
      unfold World.cell? at h0
      split at h0
      · rename_i h; have := lt_of_heap h; rwa [block_add, block_add] at this
      · cases h0

theorem rds_get {w : World} {A : Option Addr} {size : Nat} {css : List (List Value)} {ad : Addr} (h : (Res.rds A size css).holds w) (hA : A = some ad) {i : Nat} {cs : List Value} (hi : css[i]? = some cs) :
    ∀ j v, cs[j]? = some v → w.cell? ((ad.add (i * size)).add j) = some v := by
  obtain ⟨a', ha, hc⟩ := h i cs hi
  rw [hA] at ha
  injection ha with ha
  subst ha
  exact hc
theorem rds_some {w : World} {A : Option Addr} {size : Nat} {css : List (List Value)} {cs : List Value} {i : Nat} (h : (Res.rds A size css).holds w) (hi : css[i]? = some cs) : ∃ ad, A = some ad := by
  obtain ⟨a', ha, _⟩ := h i cs hi
  exact ⟨a', ha⟩

/-- A block of SSA, as its cells. -/
structure SB where
  pA : Option Addr
  pn : Nat
  pc : Nat
  iA : Option Addr
  ik : Nat
  ic : Nat
  e : Int
  v : Int
  a : Int
  b : Int
def SB.cells (x : SB) : List Value := [.slice x.pA x.pn x.pc, .slice x.iA x.ik x.ic, .int .i64 x.e, .int .i64 x.v, .int .i64 x.a, .int .i64 x.b]
def Res.blocks (A : Option Addr) (bs : List SB) : Res := .rds A 6 (bs.map SB.cells)
theorem blocks_some {w : World} {A : Option Addr} {bs : List SB} {i : Nat} {x : SB} (h : (Res.blocks A bs).holds w) (hi : bs[i]? = some x) : ∃ ad, A = some ad :=
  rds_some (cs := x.cells) (i := i) h (by simp [hi])
theorem blocks_get {w : World} {A : Option Addr} {bs : List SB} {ad : Addr} {i : Nat} {x : SB} (h : (Res.blocks A bs).holds w) (hA : A = some ad) (hi : bs[i]? = some x) :
    ∀ j v, [.slice x.pA x.pn x.pc, .slice x.iA x.ik x.ic, .int .i64 x.e, .int .i64 x.v, .int .i64 x.a, .int .i64 x.b][j]? = some v → w.cell? ((ad.add (i * 6)).add j) = some v :=
  rds_get (cs := x.cells) h hA (by simp [hi])
theorem get_lt {α : Type} {l : List α} {i : Int} (h0 : 0 ≤ i) (h : i < l.length) : ∃ x, l[i.toNat]? = some x := ⟨_, List.getElem?_eq_getElem (by omega)⟩

/-! ### lists of numbers -/
theorem has_next {l : List Int} {k : Int} {j : Nat} (h : (l.take j).contains k = false) (hc : ¬ (l.getD (j : Int).toNat 0 = k)) (hj : j < l.length) : (l.take (j + 1)).contains k = false := by
  rw [List.take_succ_eq_append_getElem hj]
  simp only [Int.toNat_natCast, List.getD, List.getElem?_eq_getElem hj, Option.getD_some] at hc
  simp only [List.contains_eq_mem, decide_eq_false_iff_not, List.mem_append, List.mem_singleton] at h ⊢
  exact fun hh => hh.elim h (fun e => hc e.symm)
theorem has_yes {l : List Int} {k : Int} {j : Nat} (hc : l.getD (j : Int).toNat 0 = k) (hj : j < l.length) : l.contains k = true := by
  simp only [Int.toNat_natCast, List.getD, List.getElem?_eq_getElem hj, Option.getD_some] at hc
  simp only [List.contains_eq_mem, decide_eq_true_eq]
  exact hc ▸ List.getElem_mem hj
theorem has_no {l : List Int} {k : Int} {j : Nat} (h : (l.take j).contains k = false) (hj : l.length ≤ j) : l.contains k = false := by
  rwa [List.take_of_length_le hj] at h

theorem take_next {l m : List Int} {j : Nat} (h : l.take j = m.take j) (hl : l.length = m.length) (hc : l.getD (j : Int).toNat 0 = m.getD (j : Int).toNat 0) (hj : j < l.length) : l.take (j + 1) = m.take (j + 1) := by
  rw [List.take_succ_eq_append_getElem hj, List.take_succ_eq_append_getElem (by omega), h]
  simp only [Int.toNat_natCast, List.getD, List.getElem?_eq_getElem hj, List.getElem?_eq_getElem (show j < m.length by omega), Option.getD_some] at hc
  rw [hc]
theorem same_yes {l m : List Int} {j : Nat} (h : l.take j = m.take j) (hl : l.length = m.length) (hj : l.length ≤ j) : decide (l = m) = true := by
  rw [List.take_of_length_le hj, List.take_of_length_le (by omega)] at h
  simpa using h
theorem same_no {l m : List Int} {j : Nat} (hc : ¬ (l.getD (j : Int).toNat 0 = m.getD (j : Int).toNat 0)) : decide (l = m) = false := by
  simp only [decide_eq_false_iff_not]
  rintro rfl
  exact hc rfl
theorem same_len {l m : List Int} (hl : ¬ (l.length = m.length)) : decide (l = m) = false := by
  simp only [decide_eq_false_iff_not]
  rintro rfl
  exact hl rfl

theorem row_ret {w w' : World} {A : Option Addr} {n c : Nat} {l l0 : List Int} (hM : Mem noS w w' [.row 3 1 A n c (ints l)]) (e : l = l0) (hn : n = l.length) :
    ∃ A' c', Value.slice A n c = .slice A' l0.length c' ∧ Mem noS w w' [.row 3 1 A' l0.length c' (ints l0)] := by
  subst e
  subst hn
  exact ⟨A, c, rfl, hM⟩
theorem nil_ret {w w' : World} {l0 : List Int} (hM : Mem noS w w' []) (e : l0 = []) :
    ∃ A' c', Value.slice none 0 0 = .slice A' l0.length c' ∧ Mem noS w w' [.row 3 1 A' l0.length c' (ints l0)] := by
  subst e
  exact ⟨none, 0, rfl, hM.call (Mem.nilrow _ 3 1)⟩

/-! ### targets and sources -/
def inR (n : Nat) (t : Int) : Bool := decide (0 ≤ t) && decide (t < n)
def tgx (n : Nat) (x : SB) : List Int :=
  (if x.e = 0 then [x.a] else if x.e = 1 then (if x.a = x.b then [x.a] else [x.a, x.b]) else []).filter (inR n)
def tg (bs : List SB) (b : Int) : List Int := if 0 ≤ b then (match bs[b.toNat]? with
  | some x => tgx bs.length x
  | none => []) else []

theorem tg_out {bs : List SB} {b : Int} (h : b < 0 ∨ (bs.length : Int) ≤ b) : tg bs b = [] := by
  unfold tg
  split
  · rw [List.getElem?_eq_none (by omega)]
  · rfl
theorem tg_in {bs : List SB} {b : Int} {x : SB} (h : 0 ≤ b) (hx : bs[b.toNat]? = some x) : tg bs b = tgx bs.length x := by
  unfold tg
  rw [if_pos h, hx]
theorem tgx_len (n : Nat) (x : SB) : (tgx n x).length ≤ 2 := by
  unfold tgx
  refine Nat.le_trans (List.length_filter_le _ _) ?_
  split
  · simp
  · split
    · split <;> simp
    · simp
theorem tg_len (bs : List SB) (b : Int) : (tg bs b).length ≤ 2 := by
  unfold tg
  split
  · split
    · exact tgx_len _ _
    · simp
  · simp
theorem tg_mem {bs : List SB} {b t : Int} (h : t ∈ tg bs b) : 0 ≤ t ∧ t < bs.length := by
  unfold tg at h
  split at h
  · split at h
    · simp only [tgx, List.mem_filter, inR, Bool.and_eq_true, decide_eq_true_eq] at h
      exact h.2
    · simp at h
  · simp at h
theorem inR_no {n : Nat} {t : Int} (h : t < 0) : inR n t = false := by
  unfold inR
  simp; omega
theorem inR_hi {n : Nat} {t : Int} (h : ¬ t < 0) : decide (t ≥ (n : Int)) = !(inR n t) := by
  unfold inR
  have h0 : decide (0 ≤ t) = true := by simp; omega
  rw [h0, Bool.true_and]
  by_cases h1 : t < (n : Int)
  · simp [h1]
  · simp [h1]; omega
theorem ints_set (l : List Int) (i : Nat) (v : Int) : ints (l.set i v) = (ints l).set i (.int .i64 v) := by simp [ints, List.map_set]
theorem filter_twice (n : Nat) (l : List Int) : l.filter (fun x => !((fun x => !(inR n x)) x)) = l.filter (inR n) := by
  apply List.filter_congr
  intro x _
  simp
theorem tgx_none {n : Nat} {x : SB} (h0 : ¬ x.e = 0) (h1 : ¬ x.e = 1) : ([] : List Int).filter (fun x => !((fun x => !(inR n x)) x)) = tgx n x := by
  rw [filter_twice]; unfold tgx; rw [if_neg h0, if_neg h1]
theorem tgx_one {n : Nat} {x : SB} (h : x.e = 0 ∨ (¬ x.e = 0 ∧ x.e = 1 ∧ x.a = x.b)) : [x.a].filter (fun x => !((fun x => !(inR n x)) x)) = tgx n x := by
  rw [filter_twice]; unfold tgx
  rcases h with h | ⟨h, h1, h2⟩
  · rw [if_pos h]
  · rw [if_neg h, if_pos h1, if_pos h2]
theorem tgx_two {n : Nat} {x : SB} (h : x.e = 1) (h2 : ¬ x.a = x.b) : [x.a, x.b].filter (fun x => !((fun x => !(inR n x)) x)) = tgx n x := by
  rw [filter_twice]; unfold tgx
  rw [if_neg (by omega), if_pos h, if_neg h2]
/-- The reference's way to the targets. -/
def rt1 (n : Nat) (x : SB) : List Int := if inR n x.a then [x.a] else []
def rt2 (n : Nat) (x : SB) : List Int := if x.e = 1 ∧ x.b ≠ x.a ∧ inR n x.b = true then [x.b] else []
theorem rt_eq {n : Nat} {x : SB} (h : x.e = 0 ∨ x.e = 1) : rt1 n x ++ rt2 n x = tgx n x := by
  unfold rt1 rt2 tgx
  rcases h with h | h
  · rw [if_pos h, if_neg (show ¬ (x.e = 1 ∧ x.b ≠ x.a ∧ inR n x.b = true) by rintro ⟨h1, _⟩; omega)]
    by_cases h1 : inR n x.a = true <;> simp [h1]
  · rw [if_neg (show ¬ x.e = 0 by omega), if_pos h]
    by_cases h0 : x.a = x.b
    · rw [if_pos h0, if_neg (show ¬ (x.e = 1 ∧ x.b ≠ x.a ∧ inR n x.b = true) from fun hh => hh.2.1 h0.symm)]
      by_cases h1 : inR n x.a = true <;> simp [h1]
    · rw [if_neg h0]
      have h0' : x.b ≠ x.a := fun e => h0 e.symm
      by_cases h1 : inR n x.a = true <;> by_cases h2 : inR n x.b = true
      · rw [if_pos h1, if_pos ⟨h, h0', h2⟩]; simp [h1, h2]
      · rw [if_pos h1, if_neg (fun hh => h2 hh.2.2)]; simp [h1, h2]
      · rw [if_neg h1, if_pos ⟨h, h0', h2⟩]; simp [h1, h2]
      · rw [if_neg h1, if_neg (fun hh => h2 hh.2.2)]; simp [h1, h2]
theorem rt_none {n : Nat} {x : SB} (h0 : ¬ x.e = 0) (h1 : ¬ x.e = 1) : tgx n x = [] := by
  unfold tgx
  rw [if_neg h0, if_neg h1]
  rfl
theorem rt1_yes {n : Nat} {x : SB} (h0 : x.a ≥ 0) (h1 : x.a < n) : rt1 n x = [x.a] := by simp [rt1, inR, h0, h1]
theorem rt1_no {n : Nat} {x : SB} (h : x.a < 0 ∨ ¬ x.a < n) : rt1 n x = [] := by
  unfold rt1 inR
  rw [if_neg]
  simp only [Bool.and_eq_true, decide_eq_true_eq]
  omega
theorem rt2_yes {n : Nat} {x : SB} (h : x.e = 1) (h' : x.b ≠ x.a) (h0 : x.b ≥ 0) (h1 : x.b < n) : rt2 n x = [x.b] := by simp [rt2, inR, h, h', h0, h1]
theorem rt2_no {n : Nat} {x : SB} (h : ¬ x.e = 1 ∨ ¬ x.b ≠ x.a ∨ ¬ (x.b ≥ 0) ∨ ¬ x.b < n) : rt2 n x = [] := by
  unfold rt2 inR
  rw [if_neg]
  simp only [Bool.and_eq_true, decide_eq_true_eq]
  omega
theorem rt1_len (n : Nat) (x : SB) : (rt1 n x).length ≤ 1 := by unfold rt1; split <;> simp
/-- The sources among the first k. -/
def srcsTo (bs : List SB) (b : Int) (k : Nat) : List Int := ((List.range k).filter (fun i : Nat => (tg bs (i : Int)).contains b)).map (fun i : Nat => (i : Int))
def srcs (bs : List SB) (b : Int) : List Int := srcsTo bs b bs.length
theorem srcsTo_succ (bs : List SB) (b : Int) (k : Nat) : srcsTo bs b (k + 1) = srcsTo bs b k ++ (if (tg bs (k : Int)).contains b = true then [(k : Int)] else []) := by
  unfold srcsTo
  rw [List.range_succ, List.filter_append, List.map_append]
  congr 1
  by_cases h : (tg bs (k : Int)).contains b = true
  · rw [if_pos h]; simp only [List.filter_cons, h, if_true, List.filter_nil, List.map_cons, List.map_nil]
  · rw [if_neg h]
    rw [Bool.not_eq_true] at h
    simp only [List.filter_cons, h, Bool.false_eq_true, if_false, List.filter_nil, List.map_nil]
theorem srcsTo_len (bs : List SB) (b : Int) (k : Nat) : (srcsTo bs b k).length ≤ k := by
  unfold srcsTo
  rw [List.length_map]
  exact Nat.le_trans (List.length_filter_le _ _) (by simp)

/-! ### the first that .., and those that stay -/
def fidx (p : Int → Bool) (l : List Int) : Int := match l.findIdx? p with
  | some i => (i : Int)
  | none => -1
theorem any_next {p : Int → Bool} {l : List Int} {j : Nat} (h : (l.take j).any p = false) (hc : p (l.getD (j : Int).toNat 0) = false) (hj : j < l.length) : (l.take (j + 1)).any p = false := by
  rw [List.take_succ_eq_append_getElem hj]
  simp only [Int.toNat_natCast, List.getD, List.getElem?_eq_getElem hj, Option.getD_some] at hc
  rw [List.any_append, h]
  simp [hc]
theorem fidx_hit {p : Int → Bool} {l : List Int} {j : Nat} (h : (l.take j).any p = false) (hc : p (l.getD (j : Int).toNat 0) = true) (hj : j < l.length) : fidx p l = (j : Int) := by
  simp only [Int.toNat_natCast, List.getD, List.getElem?_eq_getElem hj, Option.getD_some] at hc
  unfold fidx
  have : l.findIdx? p = some j := by
    rw [List.findIdx?_eq_some_iff_getElem]
    refine ⟨hj, hc, fun i hi => ?_⟩
    simp only [List.any_eq_false] at h
    exact h _ (List.mem_iff_getElem.2 ⟨i, by simp; omega, by simp⟩)
  rw [this]
theorem fidx_miss {p : Int → Bool} {l : List Int} {j : Nat} (h : (l.take j).any p = false) (hj : l.length ≤ j) : fidx p l = -1 := by
  rw [List.take_of_length_le hj] at h
  unfold fidx
  have : l.findIdx? p = none := by
    rw [List.findIdx?_eq_none_iff]
    simpa using h
  rw [this]
theorem fidx_lt (p : Int → Bool) (l : List Int) : -1 ≤ fidx p l ∧ fidx p l < l.length := by
  unfold fidx
  cases h : l.findIdx? p with
  | none => simp only []; omega
  | some i =>
    rw [List.findIdx?_eq_some_iff_getElem] at h
    obtain ⟨h1, _⟩ := h
    simp only []
    omega
theorem fidx_contains (l : List Int) (k : Int) : decide (fidx (fun x => x == k) l ≥ 0) = l.contains k := by
  unfold fidx
  cases h : l.findIdx? (fun x => x == k) with
  | none =>
    rw [List.findIdx?_eq_none_iff] at h
    have : l.contains k = false := by
      simp only [List.contains_eq_mem, decide_eq_false_iff_not]
      intro hk
      have := h k hk
      simp at this
    rw [this]
    simp
  | some i =>
    rw [List.findIdx?_eq_some_iff_getElem] at h
    obtain ⟨h1, h2, _⟩ := h
    have : l.contains k = true := by
      simp only [List.contains_eq_mem, decide_eq_true_eq]
      have h3 : l[i] = k := by simpa using h2
      exact h3 ▸ List.getElem_mem h1
    rw [this]
    simp only [ge_iff_le, decide_eq_true_eq]
    omega

/-- Those of the first j that are not struck. -/
def kept (p : Int → Bool) (l : List Int) (j : Nat) : List Int := (l.take j).filter (fun x => !p x)
theorem kept_yes {p : Int → Bool} {l : List Int} {j : Nat} (hj : j < l.length) (hc : p (l.getD (j : Int).toNat 0) = false) : kept p l (j + 1) = kept p l j ++ [l.getD (j : Int).toNat 0] := by
  unfold kept
  simp only [Int.toNat_natCast, List.getD, List.getElem?_eq_getElem hj, Option.getD_some] at hc ⊢
  rw [List.take_succ_eq_append_getElem hj, List.filter_append]
  simp [hc]
theorem kept_no {p : Int → Bool} {l : List Int} {j : Nat} (hj : j < l.length) (hc : p (l.getD (j : Int).toNat 0) = true) : kept p l (j + 1) = kept p l j := by
  unfold kept
  simp only [Int.toNat_natCast, List.getD, List.getElem?_eq_getElem hj, Option.getD_some] at hc ⊢
  rw [List.take_succ_eq_append_getElem hj, List.filter_append]
  simp [hc]
theorem kept_len (p : Int → Bool) (l : List Int) (j : Nat) : (kept p l j).length ≤ j := by
  unfold kept
  exact Nat.le_trans (List.length_filter_le _ _) (by simp; omega)
theorem kept_all {p : Int → Bool} {l : List Int} {j : Nat} (hj : l.length ≤ j) : kept p l j = l.filter (fun x => !p x) := by
  unfold kept
  rw [List.take_of_length_le hj]
theorem any_filter {p : Int → Bool} {l : List Int} (h : fidx p l = -1) : l.filter (fun x => !p x) = l := by
  unfold fidx at h
  cases hh : l.findIdx? p with
  | some i => rw [hh] at h; simp only [] at h; omega
  | none =>
    rw [List.findIdx?_eq_none_iff] at hh
    rw [List.filter_eq_self]
    intro x hx
    simp [hh x hx]
/-- Where the first is struck. -/
theorem kept_start {p : Int → Bool} {l : List Int} (h : fidx p l ≠ -1) : ∃ i : Nat, fidx p l = (i : Int) ∧ i < l.length ∧ kept p l (i + 1) = l.take i := by
  unfold fidx at h ⊢
  cases hh : l.findIdx? p with
  | none => rw [hh] at h; simp at h
  | some i =>
    rw [List.findIdx?_eq_some_iff_getElem] at hh
    obtain ⟨h1, h2, h3⟩ := hh
    refine ⟨i, rfl, h1, ?_⟩
    unfold kept
    rw [List.take_succ_eq_append_getElem h1, List.filter_append]
    have : [l[i]].filter (fun x => !p x) = [] := by simp [h2]
    rw [this, List.append_nil, List.filter_eq_self]
    intro x hx
    obtain ⟨j, hj, rfl⟩ := List.mem_iff_getElem.1 hx
    simp at hj
    have := h3 j (by omega)
    simpa using this
/-- What stands in the slice while it is gone through. -/
def Half (l m k : List Int) (j : Nat) : Prop := m.length = l.length ∧ m.take k.length = k ∧ m.drop j = l.drop j ∧ k.length < j
theorem half_get {l m k : List Int} {j : Nat} (h : Half l m k j) : m.getD (j : Int).toNat 0 = l.getD (j : Int).toNat 0 := by
  obtain ⟨h1, _, h3, _⟩ := h
  simp only [Int.toNat_natCast, List.getD]
  have e : ∀ x : List Int, x[j]? = (x.drop j)[0]? := fun x => by simp
  rw [e m, e l, h3]
theorem half_no {l m k : List Int} {j : Nat} (h : Half l m k j) : Half l m k (j + 1) := by
  obtain ⟨h1, h2, h3, h4⟩ := h
  refine ⟨h1, h2, ?_, by omega⟩
  rw [← List.drop_drop, ← List.drop_drop, h3]
theorem half_yes {l m k : List Int} {j : Nat} (h : Half l m k j) (hj : j < l.length) (v : Int) : Half l (m.set k.length v) (k ++ [v]) (j + 1) := by
  obtain ⟨h1, h2, h3, h4⟩ := h
  refine ⟨by simpa using h1, ?_, ?_, by simp; omega⟩
  · rw [List.length_append, List.length_singleton, List.take_succ_eq_append_getElem (by simp; omega)]
    rw [List.take_set_of_le (Nat.le_refl _), h2]
    simp
  · rw [List.drop_set, if_pos (by omega), ← List.drop_drop, ← List.drop_drop, h3]
theorem half_start {l : List Int} {i : Nat} (hi : i < l.length) : Half l l (l.take i) (i + 1) := by
  refine ⟨rfl, by simp, rfl, by simp; omega⟩
theorem cleared {k m : List Int} (h2 : m.take k.length = k) (z y : List Value) : ((ints m).take (k.length * 1) ++ z ++ y).take (k.length * 1) = ints k := by
  have hl : k.length ≤ m.length := by
    have := congrArg List.length h2
    simp at this
    omega
  have hi : (ints m).take (k.length * 1) = ints k := by
    rw [Nat.mul_one]
    unfold ints
    rw [← List.map_take, h2]
  rw [hi, List.append_assoc]
  have : k.length * 1 = (ints k).length := by rw [ints_len, Nat.mul_one]
  rw [this, List.take_left]
end Go.Mor

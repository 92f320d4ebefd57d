/-
  Lists of lists in memory; the reference's answers: what stands above what, and its edge. No program in sight.
-/
import Derived.Test.YtlkpkinmmjcbcaaM1
namespace Go.Mor
open Go.RowKit

/-- The inner rows tell such lists. -/
def FamOf {α : Type} (enc : α → Value) (rows : List RowV) (l : List (List α)) : Prop := rows.map (fun r => (r.n, r.xs)) = l.map (fun x => (x.length, x.map enc))
section
variable {α : Type} {enc : α → Value} {rows : List RowV} {l : List (List α)}
theorem FamOf.len (h : FamOf enc rows l) : rows.length = l.length := by
  have := congrArg List.length h
  simpa using this
theorem FamOf.nil : FamOf enc [] ([] : List (List α)) := rfl
theorem FamOf.get (h : FamOf enc rows l) {i : Nat} {x : List α} (hi : l[i]? = some x) : ∃ A c, rows[i]? = some ⟨A, x.length, c, x.map enc⟩ := by
  have h1 : (rows.map (fun r => (r.n, r.xs)))[i]? = (l.map (fun x => (x.length, x.map enc)))[i]? := by rw [h]
  simp only [List.getElem?_map, hi, Option.map_some] at h1
  cases h2 : rows[i]? with
  | none => rw [h2] at h1; simp at h1
  | some r =>
    rw [h2] at h1
    simp only [Option.map_some, Option.some.injEq, Prod.mk.injEq] at h1
    obtain ⟨A, n, c, xs⟩ := r
    simp only at h1
    obtain ⟨rfl, rfl⟩ := h1
    exact ⟨A, c, rfl⟩
theorem FamOf.push (h : FamOf enc rows l) {A : Option Addr} {n c : Nat} {xs : List Value} {x : List α} (hn : n = x.length) (hx : xs = x.map enc) : FamOf enc (rows ++ [⟨A, n, c, xs⟩]) (l ++ [x]) := by
  subst hn
  subst hx
  unfold FamOf at h ⊢
  rw [List.map_append, List.map_append, h]
  rfl
theorem FamOf.next {d : Nat} (h : FamOf enc rows (l.take d)) {A : Option Addr} {n c : Nat} {xs : List Value} {x : List α} (hd : l[d]? = some x) (hn : n = x.length) (hx : xs = x.map enc) : FamOf enc (rows ++ [⟨A, n, c, xs⟩]) (l.take (d + 1)) := by
  obtain ⟨hlt, he⟩ := List.getElem?_eq_some_iff.1 hd
  rw [List.take_succ_eq_append_getElem hlt, he]
  exact h.push hn hx
theorem FamOf.set (h : FamOf enc rows l) {A : Option Addr} {n c i : Nat} {xs : List Value} {x : List α} (hn : n = x.length) (hx : xs = x.map enc) : FamOf enc (rows.set i ⟨A, n, c, xs⟩) (l.set i x) := by
  subst hn
  subst hx
  unfold FamOf at h ⊢
  rw [List.map_set, List.map_set, h]
theorem FamOf.all {d : Nat} (h : FamOf enc rows (l.take d)) (hd : l.length ≤ d) : FamOf enc rows l := by rwa [List.take_of_length_le hd] at h
theorem FamOf.nils (n : Nat) : FamOf enc (List.replicate n nilV) (List.replicate n ([] : List α)) := by
  unfold FamOf
  simp [nilV]
end
theorem fam_rd {w : World} {e : Nat} {rows : List RowV} {A : Option Addr} {n c i : Nat} {xs : List Value} (h : (Res.fam e rows).holds w) (hi : rows[i]? = some ⟨A, n, c, xs⟩) : (Res.rd A xs).holds w := row_rd (fam_get h hi)
theorem RO.fam_rd {S : Nat → Prop} {w : World} {e : Nat} {rows : List RowV} {A : Option Addr} {n c i : Nat} {xs : List Value} (h : RO S w (.fam e rows)) (hi : rows[i]? = some ⟨A, n, c, xs⟩) : RO S w (.row e 1 A n c xs) :=
  ⟨fam_get h.1 hi, fun g hg => h.2 g ⟨_, List.mem_of_getElem? hi, hg⟩⟩
theorem getD_of {α : Type} {l : List α} {i : Nat} {x d : α} (h : l[i]? = some x) : l.getD i d = x := by simp [List.getD, h]

/-! ### what stands above what -/
def overB (bs : List SB) (d b : Int) : Bool := walkB bs (-1) d && (walkB bs (-1) b && !(walkB bs d b))
def overL (bs : List SB) : List (List Bool) := (List.range bs.length).map (fun d : Nat => (List.range bs.length).map (fun b : Nat => overB bs (d : Int) (b : Int)))
theorem overL_len (bs : List SB) : (overL bs).length = bs.length := by simp [overL]
theorem overL_row {bs : List SB} {d : Nat} {m : List Bool} (hd : d < bs.length) (h : BoolsOf bs.length m (overB bs (d : Int))) : (overL bs)[d]? = some m := by
  have : m = (List.range bs.length).map (fun b : Nat => overB bs (d : Int) (b : Int)) := bools_ext h (by simp) (fun j hj => by simp [List.getD, hj])
  rw [this]
  simp [overL, hd]
theorem BoolsOf.congr {n : Nat} {l : List Bool} {S S' : Int → Bool} (h : BoolsOf n l S) (e : ∀ i : Nat, i < n → S (i : Int) = S' (i : Int)) : BoolsOf n l S' := ⟨h.1, fun i hi => (h.2 i hi).trans (e i hi)⟩
theorem over_none {bs : List SB} {d : Nat} (h : walkB bs (-1) (d : Int) = false) : BoolsOf bs.length (List.replicate bs.length false) (overB bs (d : Int)) :=
  (BoolsOf.start bs.length).congr (fun i _ => by simp [overB, h])
def overTo (bs : List SB) (d : Int) (k : Nat) (b : Int) : Bool := decide (b < (k : Int)) && overB bs d b
theorem over_start (bs : List SB) (d : Int) : BoolsOf bs.length (List.replicate bs.length false) (overTo bs d 0) :=
  (BoolsOf.start bs.length).congr (fun i _ => by
    have : decide ((i : Int) < ((0 : Nat) : Int)) = false := by simp
    rw [overTo, this]
    rfl)
theorem over_next {bs : List SB} {d : Int} {k : Nat} {m : List Bool} {v : Bool} (h : BoolsOf bs.length m (overTo bs d k)) (hk : k < bs.length) (hv : v = overB bs d (k : Int)) : BoolsOf bs.length (m.set k v) (overTo bs d (k + 1)) := by
  refine ⟨by simp [h.1], fun j hj => ?_⟩
  by_cases e : k = j
  · subst e
    have : k < m.length := by rw [h.1]; exact hk
    have h2 : decide ((k : Int) < ((k + 1 : Nat) : Int)) = true := by simp; omega
    simp only [overTo, h2, Bool.true_and]
    simp [List.getD, this, hv]
  · have h1 := h.2 j hj
    have h2 : decide ((j : Int) < ((k + 1 : Nat) : Int)) = decide ((j : Int) < (k : Int)) := by
      rw [decide_eq_decide]
      omega
    rw [overTo, h2]
    rw [overTo] at h1
    rw [← h1]
    simp [List.getD, List.getElem?_set_ne e]
theorem over_done {bs : List SB} {d : Int} {k : Nat} {m : List Bool} (h : BoolsOf bs.length m (overTo bs d k)) (hk : bs.length ≤ k) : BoolsOf bs.length m (overB bs d) :=
  h.congr (fun i hi => by
    have : decide ((i : Int) < (k : Int)) = true := by simp; omega
    rw [overTo, this]
    rfl)
theorem over_val {bs : List SB} {d : Nat} {b : Nat} (hd : walkB bs (-1) (d : Int) = true) (hb : walkB bs (-1) (b : Int) = true) : (!(walkB bs (d : Int) (b : Int))) = overB bs (d : Int) (b : Int) := by simp [overB, hd, hb]
theorem over_off {bs : List SB} {d b : Int} (hb : walkB bs (-1) b = false) : false = overB bs d b := by simp [overB, hb]

/-! ### the nearest above -/
def at2 (l : List (List Bool)) (i j : Nat) : Bool := (l.getD i []).getD j false
def bestTo (l : List (List Bool)) (b : Nat) : Nat → Int
  | 0 => -1
  | k + 1 => if k ≠ b ∧ at2 l k b = true ∧ (bestTo l b k < 0 ∨ at2 l (bestTo l b k).toNat k = true) then (k : Int) else bestTo l b k
theorem bestTo_lt (l : List (List Bool)) (b k : Nat) : -1 ≤ bestTo l b k ∧ bestTo l b k < k := by
  induction k with
  | zero => simp [bestTo]
  | succ k ih =>
    unfold bestTo
    split
    · omega
    · omega
def aboveOfL (l : List (List Bool)) : List Int := (List.range l.length).map (fun b => bestTo l b l.length)
def raboveTo (l : List (List Bool)) (k : Nat) : List Int := (List.range k).map (fun b => bestTo l b l.length)
theorem raboveTo_succ (l : List (List Bool)) (k : Nat) : raboveTo l (k + 1) = raboveTo l k ++ [bestTo l k l.length] := by simp [raboveTo, List.range_succ]
theorem raboveTo_len (l : List (List Bool)) (k : Nat) : (raboveTo l k).length = k := by simp [raboveTo]
def Square (l : List (List Bool)) : Prop := ∀ (i : Nat) (x : List Bool), l[i]? = some x → x.length = l.length
theorem overL_square (bs : List SB) : Square (overL bs) := by
  intro i x h
  rw [overL_len]
  have := List.mem_of_getElem? h
  simp only [overL, List.mem_map] at this
  obtain ⟨d, _, rfl⟩ := this
  simp
theorem sq_get {l : List (List Bool)} (i : Nat) (hi : i < l.length) : ∃ x, l[i]? = some x := ⟨_, List.getElem?_eq_getElem hi⟩
theorem at2_of {l : List (List Bool)} {i j : Nat} {x : List Bool} (h : l[i]? = some x) : at2 l i j = x.getD j false := by simp [at2, List.getD, h]
def raboveL (bs : List SB) : List Int := aboveOfL (overL bs)

/-! ### the edge -/
def edgeP (bs : List SB) (b y : Nat) : Bool := (srcs bs (y : Int)).any (fun s => at2 (overL bs) b s.toNat) && (y == b || !(at2 (overL bs) b y))
theorem edgeP_any {bs : List SB} {b y : Nat} (h : (srcs bs (y : Int)).any (fun s => at2 (overL bs) b s.toNat) = false) : edgeP bs b y = false := by rw [edgeP, h, Bool.false_and]
theorem edgeP_eq {bs : List SB} {b y : Nat} (h : (srcs bs (y : Int)).any (fun s => at2 (overL bs) b s.toNat) = true) (e : y = b) : edgeP bs b y = true := by
  rw [edgeP, h, Bool.true_and, e, beq_self_eq_true, Bool.true_or]
theorem edgeP_val {bs : List SB} {b y : Nat} {x : List Bool} {v : Bool} (h : (srcs bs (y : Int)).any (fun s => at2 (overL bs) b s.toNat) = true) (e : ¬ y = b) (hx : (overL bs)[b]? = some x) (hv : x.getD y false = v) : edgeP bs b y = !v := by
  rw [edgeP, h, Bool.true_and, at2_of hx, hv]
  simp [e]
def redgeTo (bs : List SB) (b k : Nat) : List Int := ((List.range k).filter (fun y => edgeP bs b y)).map (fun i : Nat => (i : Int))
theorem redgeTo_yes {bs : List SB} {b k : Nat} (h : edgeP bs b k = true) : redgeTo bs b (k + 1) = redgeTo bs b k ++ [(k : Int)] := by
  simp [redgeTo, List.range_succ, List.filter_append, h]
theorem redgeTo_no {bs : List SB} {b k : Nat} (h : edgeP bs b k = false) : redgeTo bs b (k + 1) = redgeTo bs b k := by
  simp [redgeTo, List.range_succ, List.filter_append, h]
theorem redgeTo_len (bs : List SB) (b k : Nat) : (redgeTo bs b k).length ≤ k := by
  unfold redgeTo
  rw [List.length_map]
  exact Nat.le_trans (List.length_filter_le _ _) (by simp)
def redgeL (bs : List SB) : List (List Int) := (List.range bs.length).map (fun b => redgeTo bs b bs.length)
theorem redgeL_len (bs : List SB) : (redgeL bs).length = bs.length := by simp [redgeL]
theorem redgeL_get {bs : List SB} {b : Nat} (h : b < bs.length) : (redgeL bs)[b]? = some (redgeTo bs b bs.length) := by simp [redgeL, h]
theorem srcs_mem {bs : List SB} {y x : Int} (h : x ∈ srcs bs y) : 0 ≤ x ∧ x < bs.length := by
  simp only [srcs, srcsTo, List.mem_map, List.mem_filter, List.mem_range] at h
  obtain ⟨i, ⟨h1, _⟩, rfl⟩ := h
  omega
theorem any_take {p : Int → Bool} {l : List Int} {j : Nat} (hj : j < l.length) : (l.take (j + 1)).any p = ((l.take j).any p || p (l.getD j 0)) := by
  rw [List.take_succ_eq_append_getElem hj, List.any_append]
  simp [List.getD, hj]
end Go.Mor

/-
  What the walk of dom.Edge needs. No program in sight.
-/
import Derived.Test.YtlkpkinmmjcbcaaM9
namespace Go.Mor
open Go.RowKit

section
variable {bs : List SB} {up : Int → Int}
def SegsTo (bs : List SB) (up : Int → Int) (i : Int) (q : Nat) (S : Int → Bool) : Prop := ∀ d, S d = true ↔ ∃ s, s ∈ (srcs bs i).take q ∧ 0 ≤ plB bs s ∧ Seg up (up i) s d
theorem segs_start (i : Int) : SegsTo bs up i 0 (fun _ => false) := fun d => by simp
theorem segs_skip {i s : Int} {q : Nat} {S : Int → Bool} (h : SegsTo bs up i q S) (hs : (srcs bs i)[q]? = some s) (hn : plB bs s < 0) : SegsTo bs up i (q + 1) S := by
  intro d
  rw [h d, take_snoc hs]
  constructor
  · rintro ⟨x, hx, h1, h2⟩
    exact ⟨x, List.mem_append_left _ hx, h1, h2⟩
  · rintro ⟨x, hx, h1, h2⟩
    rcases List.mem_append.1 hx with hx | hx
    · exact ⟨x, hx, h1, h2⟩
    · have : x = s := by simpa using hx
      subst this
      omega
theorem segs_add {i s : Int} {q : Nat} {S S' : Int → Bool} (h : SegsTo bs up i q S) (hs : (srcs bs i)[q]? = some s) (hp : 0 ≤ plB bs s) (h' : ∀ d, S' d = true ↔ (S d = true ∨ Seg up (up i) s d)) : SegsTo bs up i (q + 1) S' := by
  intro d
  rw [h' d, h d, take_snoc hs]
  constructor
  · rintro (⟨x, hx, h1, h2⟩ | h2)
    · exact ⟨x, List.mem_append_left _ hx, h1, h2⟩
    · exact ⟨s, by simp, hp, h2⟩
  · rintro ⟨x, hx, h1, h2⟩
    rcases List.mem_append.1 hx with hx | hx
    · exact .inl ⟨x, hx, h1, h2⟩
    · have : x = s := by simpa using hx
      subst this
      exact .inr h2
theorem segs_all {i : Int} {q : Nat} {S : Int → Bool} (h : SegsTo bs up i q S) (hq : (srcs bs i).length ≤ q) : ∀ d, S d = true ↔ ∃ s, s ∈ srcs bs i ∧ 0 ≤ plB bs s ∧ Seg up (up i) s d := by
  unfold SegsTo at h
  rwa [List.take_of_length_le hq] at h
theorem seg_step {stop d0 : Int} {S : Int → Bool} {R : Int → Prop} (h : ∀ d, (S d = true ∨ Seg up stop d0 d) ↔ R d) (h1 : 0 ≤ d0) (h2 : d0 ≠ stop) : ∀ d, (addS S d0 d = true ∨ Seg up stop (up d0) d) ↔ R d := by
  intro d
  rw [← h d, seg_iff h1 h2]
  simp only [addS, Bool.or_eq_true, beq_iff_eq]
  constructor
  · rintro ((h | h) | h)
    · exact .inr (.inl h)
    · exact .inl h
    · exact .inr (.inr h)
  · rintro (h | h | h)
    · exact .inl (.inr h)
    · exact .inl (.inl h)
    · exact .inr h
theorem seg_end {stop d0 : Int} {S : Int → Bool} {R : Int → Prop} (h : ∀ d, (S d = true ∨ Seg up stop d0 d) ↔ R d) (h1 : d0 < 0 ∨ d0 = stop) : ∀ d, S d = true ↔ R d := by
  intro d
  rw [← h d]
  exact ⟨.inl, fun h => h.elim id fun h => absurd h (seg_no h1)⟩
theorem up_next (h0 : 0 < bs.length) (hf : FinU bs up) {d : Int} (hd : 0 ≤ plB bs d) : (up d = -1 ∨ 0 ≤ plB bs (up d)) ∧ (plB bs (up d) + 1).toNat < (plB bs d + 1).toNat := by
  by_cases e : d = 0
  · subst e
    rw [hf.off 0 (.inr rfl)]
    refine ⟨.inl rfl, ?_⟩
    have : ¬ 0 ≤ plB bs (-1) := fun h => by have := (plB_rng h0 h).1; omega
    omega
  · have := hf.ok.low d (hf.prc d hd) e
    have h1 := this.1.1
    exact ⟨.inr h1, by omega⟩
end
theorem redge_lt {bs : List SB} {d i : Nat} {x : Int} (h : x ∈ redgeTo bs d i) : x < i := by
  simp only [redgeTo, List.mem_map, List.mem_filter, List.mem_range] at h
  obtain ⟨y, ⟨h1, _⟩, rfl⟩ := h
  omega
theorem last_nil {bs : List SB} {d i : Nat} {b : Bool} {l : List Int} (hl : l = redgeTo bs d i ++ (if b = true then [(i : Int)] else [])) (h : l.length = 0) : b = false := by
  subst hl
  cases b
  · rfl
  · simp at h
theorem last_at {bs : List SB} {d i : Nat} {b : Bool} {l : List Int} (hl : l = redgeTo bs d i ++ (if b = true then [(i : Int)] else [])) (h : ¬ l.length = 0) : (l.getD ((l.length - 1 : Nat) : Int).toNat 0 = (i : Int)) ↔ b = true := by
  subst hl
  rw [Int.toNat_natCast]
  cases b
  · simp only [Bool.false_eq_true, if_false, List.append_nil, iff_false] at h ⊢
    intro e
    have hlt : (redgeTo bs d i).length - 1 < (redgeTo bs d i).length := by omega
    have := redge_lt (List.getElem_mem hlt)
    simp only [List.getD, List.getElem?_eq_getElem hlt, Option.getD_some] at e
    omega
  · simp [List.getD]
theorem elen {bs : List SB} {d i : Nat} {b : Bool} {l : List Int} (hl : l = redgeTo bs d i ++ (if b = true then [(i : Int)] else [])) : l.length ≤ i + 1 := by
  have := redgeTo_len bs d i
  subst hl
  cases b
  · simp; omega
  · simp; omega
theorem eraw {bs : List SB} {d i : Nat} {b : Bool} {l : List Int} (hl : l = redgeTo bs d i ++ (if b = true then [(i : Int)] else [])) (hb : b = false) : l = redgeTo bs d i := by
  subst hb
  simpa using hl
end Go.Mor

/-
  What one must come through: the rounds of dom.tree, as plain mathematics. No program in sight.
-/
import Derived.Test.YtlkpkinmmjcbcaaM3
namespace Go.Mor
open Go.RowKit

section
variable (T : Int → List Int)
/-- One must come through d to come to x. -/
def Dm (d x : Int) : Prop := ¬ (d ≠ 0 ∧ Reach (tgb T d) x)
/-- Come to without d, turning back at most k times. -/
inductive RA (pl : Int → Int) (d : Int) : Nat → Int → Prop
  | zero (k : Nat) : d ≠ 0 → RA pl d k 0
  | adv {k : Nat} {x t : Int} : RA pl d k x → t ∈ T x → t ≠ d → pl x < pl t → RA pl d k t
  | ret {k : Nat} {x t : Int} : RA pl d k x → t ∈ T x → t ≠ d → RA pl d (k + 1) t
/-- The places in an order in which each that is come to stands behind one that it comes from. -/
structure Plc (pl : Int → Int) : Prop where
  reach : ∀ x, 0 ≤ pl x ↔ Reach T x
  zero : pl 0 = 0
  inj : ∀ x y, 0 ≤ pl x → pl x = pl y → x = y
  src : ∀ x, 0 ≤ pl x → x ≠ 0 → ∃ s, 0 ≤ pl s ∧ pl s < pl x ∧ x ∈ T s
end

section
variable {T : Int → List Int} {pl : Int → Int}
theorem RA.self {d : Int} {k : Nat} : ¬ RA T pl d k d := by
  intro h
  cases h with
  | zero _ h => exact h rfl
  | adv _ _ h _ => exact h rfl
  | ret _ _ h => exact h rfl
theorem RA.mono {d x : Int} {k : Nat} (h : RA T pl d k x) : RA T pl d (k + 1) x := by
  induction h with
  | zero k h => exact .zero _ h
  | adv _ ht hne hl ih => exact .adv ih ht hne hl
  | ret _ ht hne ih => exact .ret ih ht hne
theorem RA.le {d x : Int} {k m : Nat} (h : RA T pl d k x) (hk : k ≤ m) : RA T pl d m x := by
  induction hk with
  | refl => exact h
  | step _ ih => exact ih.mono
theorem RA.reach {d x : Int} {k : Nat} (h : RA T pl d k x) : Reach T x := by
  induction h with
  | zero => exact .zero
  | adv _ ht _ _ ih => exact .step ih ht
  | ret _ ht _ ih => exact .step ih ht
theorem RA.dm {d x : Int} {k : Nat} (h : RA T pl d k x) : ¬ Dm T d x := by
  have : d ≠ 0 ∧ Reach (tgb T d) x := by
    induction h with
    | zero k h => exact ⟨h, .zero⟩
    | adv _ ht hne _ ih => exact ⟨ih.1, .step ih.2 (mem_tgb.2 ⟨ht, hne⟩)⟩
    | ret _ ht hne ih => exact ⟨ih.1, .step ih.2 (mem_tgb.2 ⟨ht, hne⟩)⟩
  exact fun h => h this
theorem RA.ex {d x : Int} (hd : d ≠ 0) (h : Reach (tgb T d) x) : ∃ k, RA T pl d k x := by
  induction h with
  | zero => exact ⟨0, .zero 0 hd⟩
  | step _ ht ih =>
    obtain ⟨k, hk⟩ := ih
    exact ⟨k + 1, .ret hk (mem_tgb.1 ht).1 (mem_tgb.1 ht).2⟩
/-- What comes to x without d comes without b too, or comes to b without d. -/
theorem RA.cut {d b x : Int} {k : Nat} (h : RA T pl d k x) : RA T pl b k x ∨ RA T pl d k b := by
  induction h with
  | zero k h =>
    by_cases e : b = 0
    · subst e; exact .inr (.zero k h)
    · exact .inl (.zero k e)
  | @adv k x t hx ht hne hl ih =>
    rcases ih with ih | ih
    · by_cases e : t = b
      · subst e; exact .inr (.adv hx ht hne hl)
      · exact .inl (.adv ih ht e hl)
    · exact .inr ih
  | @ret k x t hx ht hne ih =>
    rcases ih with ih | ih
    · by_cases e : t = b
      · subst e; exact .inr (.ret hx ht hne)
      · exact .inl (.ret ih ht e)
    · exact .inr ih.mono
/-- Where turning back once more gains nothing, nothing gains. -/
theorem RA.stable {d : Int} {k : Nat} (hs : ∀ x, RA T pl d (k + 1) x → RA T pl d k x) : ∀ m x, RA T pl d m x → RA T pl d k x := by
  intro m x h
  induction h with
  | zero _ h => exact .zero k h
  | adv _ ht hne hl ih => exact .adv ih ht hne hl
  | ret _ ht hne ih => exact hs _ (.ret ih ht hne)
open Classical in
theorem RA.grow {n : Nat} (hR : ∀ x, Reach T x → 0 ≤ x ∧ x < (n : Int)) (d : Int) (k : Nat) : (∃ j, j ≤ k ∧ ∀ x, RA T pl d (j + 1) x → RA T pl d j x) ∨ unmet n (fun x => decide (RA T pl d k x)) + k ≤ n := by
  induction k with
  | zero => exact .inr (by have := unmet_le n (fun x => decide (RA T pl d 0 x)); omega)
  | succ k ih =>
    rcases ih with ⟨j, hj, h⟩ | ih
    · exact .inl ⟨j, by omega, h⟩
    · by_cases hs : ∀ x, RA T pl d (k + 1) x → RA T pl d k x
      · exact .inl ⟨k, by omega, hs⟩
      · right
        have ⟨x, hx⟩ := Classical.not_forall.1 hs
        have ⟨h1, h2⟩ := Classical.not_imp.1 hx
        obtain ⟨r0, r1⟩ := hR x h1.reach
        have hu := unmet_add (n := n) (S := fun x => decide (RA T pl d k x)) (t := x) r0 r1 (by simpa using h2)
        have hm := unmet_mono (n := n) (S := addS (fun x => decide (RA T pl d k x)) x) (S' := fun x => decide (RA T pl d (k + 1) x)) (fun y hy => by
          simp only [addS, Bool.or_eq_true, beq_iff_eq, decide_eq_true_eq] at hy ⊢
          rcases hy with rfl | hy
          · exact h1
          · exact hy.mono)
        omega
theorem RA.all {n : Nat} (hR : ∀ x, Reach T x → 0 ≤ x ∧ x < (n : Int)) {d x : Int} (h : ¬ RA T pl d (n + 1) x) : Dm T d x := by
  rintro ⟨hd, hr⟩
  obtain ⟨m, hm⟩ := RA.ex (pl := pl) hd hr
  rcases RA.grow (pl := pl) hR d (n + 1) with ⟨j, hj, hs⟩ | hu
  · exact h ((RA.stable hs m x hm).le hj)
  · omega

theorem Dm.self (x : Int) : Dm T x x := by
  rintro ⟨h0, h⟩
  cases h with
  | zero => exact h0 rfl
  | step _ ht => exact (mem_tgb.1 ht).2 rfl
theorem Dm.zero (x : Int) : Dm T 0 x := fun h => h.1 rfl
theorem Dm.at_zero {d : Int} (h : Dm T d 0) : d = 0 := by
  by_cases e : d = 0
  · exact e
  · exact absurd ⟨e, Reach.zero⟩ h
theorem Dm.src {d x s : Int} (h : Dm T d x) (hne : d ≠ x) (hx : x ∈ T s) : Dm T d s := by
  rintro ⟨hd, hr⟩
  exact h ⟨hd, .step hr (mem_tgb.2 ⟨hx, fun e => hne e.symm⟩)⟩
/-- One comes through what stands ahead. -/
theorem Dm.le (hp : Plc T pl) {d x : Int} (hx : 0 ≤ pl x) (h : Dm T d x) : pl d ≤ pl x := by
  by_cases hlt : pl d ≤ pl x
  · exact hlt
  · exfalso
    have hd : d ≠ 0 := by
      rintro rfl
      rw [hp.zero] at hlt
      omega
    refine h ⟨hd, ?_⟩
    clear h
    have key : ∀ (m : Nat) (x : Int), 0 ≤ pl x → pl x < pl d → (pl x).toNat ≤ m → Reach (tgb T d) x := by
      intro m
      induction m with
      | zero =>
        intro x h0 _ hm
        have : x = 0 := hp.inj x 0 h0 (by rw [hp.zero]; omega)
        exact this ▸ .zero
      | succ m ih =>
        intro x h0 h1 hm
        by_cases e : x = 0
        · exact e ▸ .zero
        · obtain ⟨s, s0, s1, hs⟩ := hp.src x h0 e
          exact .step (ih s s0 (by omega) (by omega)) (mem_tgb.2 ⟨hs, fun e => by subst e; omega⟩)
    exact key _ x hx (by omega) (Nat.le_refl _)
theorem Dm.reach {d x : Int} (hx : Reach T x) (h : Dm T d x) : Reach T d := by
  by_cases hd : Reach T d
  · exact hd
  · exfalso
    refine h ⟨fun e => hd (e ▸ .zero), ?_⟩
    induction hx with
    | zero => exact .zero
    | @step y t hy ht ih =>
      have hih : Reach (tgb T d) y := by
        by_cases h2 : Dm T d y
        · exact ih h2
        · exact (Classical.not_not.1 h2).2
      exact .step hih (mem_tgb.2 ⟨ht, fun e => hd (e ▸ .step hy ht)⟩)

/-! ### what stands above -/
inductive Anc (up : Int → Int) : Int → Int → Prop
  | refl (x : Int) : Anc up x x
  | step {x d : Int} : x ≠ 0 → Anc up (up x) d → Anc up x d
theorem Anc.trans {up : Int → Int} {x y z : Int} (h : Anc up x y) (h' : Anc up y z) : Anc up x z := by
  induction h with
  | refl => exact h'
  | step hne _ ih => exact .step hne (ih h')
def Prc (pl up : Int → Int) (x : Int) : Prop := 0 ≤ pl x ∧ (x = 0 ∨ 0 ≤ up x)
structure Up (T : Int → List Int) (pl up : Int → Int) : Prop where
  low : ∀ x, Prc pl up x → x ≠ 0 → Prc pl up (up x) ∧ pl (up x) < pl x
  dom : ∀ x d, Prc pl up x → x ≠ 0 → Dm T d x → d ≠ x → Dm T d (up x)
theorem Anc.zero {up : Int → Int} {d : Int} (h : Anc up 0 d) : d = 0 := by
  cases h with
  | refl => rfl
  | step h _ => exact absurd rfl h
theorem Anc.prc {up : Int → Int} (hu : Up T pl up) {x d : Int} (h : Anc up x d) (hx : Prc pl up x) : Prc pl up d ∧ pl d ≤ pl x ∧ (d ≠ x → pl d < pl x) := by
  induction h with
  | refl => exact ⟨hx, Int.le_refl _, fun h => absurd rfl h⟩
  | @step x d hne _ ih =>
    obtain ⟨h1, h2⟩ := hu.low x hx hne
    obtain ⟨a, b, c⟩ := ih h1
    exact ⟨a, by omega, fun _ => by omega⟩
/-- Whatever one must come through stands above. -/
theorem Up.anc {up : Int → Int} (hu : Up T pl up) {x d : Int} (hx : Prc pl up x) (h : Dm T d x) : Anc up x d := by
  have key : ∀ (m : Nat) (x : Int), Prc pl up x → (pl x).toNat ≤ m → Dm T d x → Anc up x d := by
    intro m
    induction m with
    | zero =>
      intro x hx hm h
      by_cases e : d = x
      · exact e ▸ .refl _
      · by_cases e0 : x = 0
        · subst e0; exact absurd h.at_zero e
        · have h2 := hu.low x hx e0
          have := h2.1.1
          omega
    | succ m ih =>
      intro x hx hm h
      by_cases e : d = x
      · exact e ▸ .refl _
      · by_cases e0 : x = 0
        · subst e0; exact absurd h.at_zero e
        · have h2 := hu.low x hx e0
          have := h2.1.1
          exact .step e0 (ih _ h2.1 (by omega) (hu.dom x d hx e0 h e))
  exact key _ x hx (Nat.le_refl _) h

/-- How two climb till they meet. -/
inductive Climb (pl up : Int → Int) : Int → Int → Int → Prop
  | done (x : Int) : Climb pl up x x x
  | left {a b c : Int} : pl b < pl a → Climb pl up (up a) b c → Climb pl up a b c
  | right {a b c : Int} : pl a < pl b → Climb pl up a (up b) c → Climb pl up a b c
theorem Climb.what {up : Int → Int} (hp : Plc T pl) (hu : Up T pl up) {a b c : Int} (h : Climb pl up a b c) (ha : Prc pl up a) (hb : Prc pl up b) :
    Prc pl up c ∧ Anc up a c ∧ Anc up b c ∧ ∀ d, Dm T d a → Dm T d b → Dm T d c := by
  induction h with
  | done x => exact ⟨ha, .refl _, .refl _, fun d h _ => h⟩
  | @left a b c hlt _ ih =>
    have hne : a ≠ 0 := by
      rintro rfl
      rw [hp.zero] at hlt
      have := hb.1
      omega
    obtain ⟨h1, _⟩ := hu.low a ha hne
    obtain ⟨q1, q2, q3, q4⟩ := ih h1 hb
    refine ⟨q1, .step hne q2, q3, fun d hd hd' => q4 d (hu.dom a d ha hne hd ?_) hd'⟩
    rintro rfl
    have := Dm.le hp hb.1 hd'
    omega
  | @right a b c hlt _ ih =>
    have hne : b ≠ 0 := by
      rintro rfl
      rw [hp.zero] at hlt
      have := ha.1
      omega
    obtain ⟨h1, _⟩ := hu.low b hb hne
    obtain ⟨q1, q2, q3, q4⟩ := ih ha h1
    refine ⟨q1, q2, .step hne q3, fun d hd hd' => q4 d hd (hu.dom b d hb hne hd' ?_)⟩
    rintro rfl
    have := Dm.le hp ha.1 hd
    omega
end
end Go.Mor

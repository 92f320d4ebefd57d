/-
  The rounds of dom.tree and what they end with. No program in sight.
-/
import Derived.Test.YtlkpkinmmjcbcaaM4
namespace Go.Mor
open Go.RowKit

section
variable {T : Int → List Int} {pl : Int → Int}
/-- In round k, up to place j. -/
structure Rnd (T : Int → List Int) (pl up : Int → Int) (k : Nat) (j : Int) : Prop where
  ok : Up T pl up
  some : ∀ x, 0 ≤ pl x → x ≠ 0 → (pl x ≤ j ∨ 1 ≤ k) → 0 ≤ up x
  off : ∀ x, (pl x < 0 ∨ x = 0) → up x = -1
  non : k = 0 → ∀ x, j < pl x → up x = -1
  lo : ∀ x d, Prc pl up x → pl x ≤ j → Anc up x d → ¬ RA T pl d k x
  hi : 1 ≤ k → ∀ x d, Prc pl up x → Anc up x d → ¬ RA T pl d (k - 1) x

/-- What the sources looked at so far have above them. -/
def Fold (T : Int → List Int) (pl up : Int → Int) (ss : List Int) (to : Int) : Prop :=
  (to = -1 ∧ ∀ s, s ∈ ss → ¬ Prc pl up s) ∨ (Prc pl up to ∧ (∃ s, s ∈ ss ∧ Prc pl up s) ∧ (∀ s, s ∈ ss → Prc pl up s → Anc up s to) ∧ ∀ d, (∀ s, s ∈ ss → Prc pl up s → Dm T d s) → Dm T d to)
variable {up : Int → Int}
theorem Fold.start : Fold T pl up [] (-1) := .inl ⟨rfl, fun _ h => (List.not_mem_nil h).elim⟩
theorem Fold.skip {ss : List Int} {to s : Int} (h : Fold T pl up ss to) (hs : ¬ Prc pl up s) : Fold T pl up (ss ++ [s]) to := by
  have hm : ∀ x, x ∈ ss ++ [s] → Prc pl up x → x ∈ ss := by
    intro x hx hp
    rcases List.mem_append.1 hx with hx | hx
    · exact hx
    · simp only [List.mem_singleton] at hx
      exact absurd (hx ▸ hp) hs
  rcases h with ⟨h1, h2⟩ | ⟨h1, ⟨q, hq, hqp⟩, h2, h3⟩
  · exact .inl ⟨h1, fun x hx hp => h2 x (hm x hx hp) hp⟩
  · exact .inr ⟨h1, ⟨q, List.mem_append_left _ hq, hqp⟩, fun x hx hp => h2 x (hm x hx hp) hp, fun d hd => h3 d (fun x hx hp => hd x (List.mem_append_left _ hx) hp)⟩
theorem Fold.first {ss : List Int} {to s : Int} (h : Fold T pl up ss to) (hto : to < 0) (hr : ∀ x, 0 ≤ pl x → 0 ≤ x) (hs : Prc pl up s) : Fold T pl up (ss ++ [s]) s := by
  rcases h with ⟨h1, h2⟩ | ⟨h1, _⟩
  · refine .inr ⟨hs, ⟨s, by simp, hs⟩, fun x hx hp => ?_, fun d hd => hd s (by simp) hs⟩
    rcases List.mem_append.1 hx with hx | hx
    · exact absurd hp (h2 x hx)
    · simp only [List.mem_singleton] at hx
      exact hx ▸ .refl _
  · have := hr to h1.1
    omega
theorem Fold.meet {ss : List Int} {to s c : Int} (hp : Plc T pl) (hu : Up T pl up) (h : Fold T pl up ss to) (hto : 0 ≤ to) (hs : Prc pl up s) (hc : Climb pl up to s c) : Fold T pl up (ss ++ [s]) c := by
  rcases h with ⟨h1, h2⟩ | ⟨h1, h0, h2, h3⟩
  · omega
  · obtain ⟨q1, q2, q3, q4⟩ := hc.what hp hu h1 hs
    refine .inr ⟨q1, ⟨s, by simp, hs⟩, fun x hx hp => ?_, fun d hd => q4 d (h3 d (fun x hx hp => hd x (List.mem_append_left _ hx) hp)) (hd s (by simp) hs)⟩
    rcases List.mem_append.1 hx with hx | hx
    · exact (h2 x hx hp).trans q2
    · simp only [List.mem_singleton] at hx
      exact hx ▸ q3
theorem Fold.prc {ss : List Int} {to : Int} (h : Fold T pl up ss to) (hto : 0 ≤ to) : Prc pl up to := by
  rcases h with ⟨h1, _⟩ | ⟨h1, _⟩
  · omega
  · exact h1

def updI (up : Int → Int) (b c : Int) : Int → Int := fun x => if x = b then c else up x
theorem upd_same {b : Int} : updI up b (up b) = up := by
  funext x
  unfold updI
  split
  · subst_vars; rfl
  · rfl
theorem upd_at {b c : Int} : updI up b c b = c := by simp [updI]
theorem upd_ne {b c x : Int} (h : x ≠ b) : updI up b c x = up x := by simp [updI, h]

section
variable {b c : Int}
theorem upd_prc (hc : 0 ≤ c) {x : Int} (h : Prc pl up x) : Prc pl (updI up b c) x := by
  refine ⟨h.1, h.2.imp id fun h => ?_⟩
  by_cases e : x = b
  · subst e; rw [upd_at]; exact hc
  · rw [upd_ne e]; exact h
theorem prc_upd {x : Int} (h : Prc pl (updI up b c) x) (e : x ≠ b) : Prc pl up x := by
  refine ⟨h.1, h.2.imp id fun h => ?_⟩
  rwa [upd_ne e] at h
/-- What stands above behind a change: what stood there, or what stands above the changed one. -/
theorem anc_upd {x d : Int} (h : Anc (updI up b c) x d) : Anc up x d ∨ (Anc up x b ∧ Anc (updI up b c) b d) := by
  induction h with
  | refl x => exact .inl (.refl x)
  | @step x d hne h ih =>
    by_cases e : x = b
    · subst e; exact .inr ⟨.refl _, .step hne h⟩
    · rw [upd_ne e] at ih
      rcases ih with ih | ⟨ih, h2⟩
      · exact .inl (.step hne ih)
      · exact .inr ⟨.step hne ih, h2⟩
theorem anc_below (hu : Up T pl up) {x d : Int} (h : Anc (updI up b c) x d) (hx : Prc pl up x) (hlt : pl x < pl b) : Anc up x d := by
  induction h with
  | refl x => exact .refl x
  | @step x d hne h ih =>
    have e : x ≠ b := by rintro rfl; omega
    rw [upd_ne e] at h ih
    obtain ⟨h1, h2⟩ := hu.low x hx hne
    exact .step hne (ih h1 (by omega))
theorem below_anc (hu : Up T pl up) {x d : Int} (h : Anc up x d) (hx : Prc pl up x) (hlt : pl x < pl b) : Anc (updI up b c) x d := by
  induction h with
  | refl x => exact .refl x
  | @step x d hne h ih =>
    have e : x ≠ b := by rintro rfl; omega
    obtain ⟨h1, h2⟩ := hu.low x hx hne
    exact .step hne (by rw [upd_ne e]; exact ih h1 (by omega))

/-- One block's turn in a round. -/
theorem Rnd.step {k : Nat} {j : Int} {ss : List Int} (hp : Plc T pl) (hr : ∀ x, 0 ≤ pl x → 0 ≤ x) (h : Rnd T pl up k j) (hj : 0 ≤ j) (hb : pl b = j + 1) (hss : ∀ s, 0 ≤ pl s → (s ∈ ss ↔ b ∈ T s)) (hc : Fold T pl up ss c) :
    0 ≤ c ∧ Prc pl up c ∧ pl c < pl b ∧ (∀ s, Prc pl up s → b ∈ T s → Anc up s c) ∧ (∀ d, d ≠ b → Dm T d b → Dm T d c) ∧ Rnd T pl (updI up b c) k (j + 1) := by
  have hb0 : b ≠ 0 := by
    rintro rfl
    rw [hp.zero] at hb
    omega
  have hbr : 0 ≤ pl b := by omega
  obtain ⟨s0, p0, p1, ps⟩ := hp.src b hbr hb0
  have prc_le : ∀ x, 0 ≤ pl x → pl x ≤ j ∨ 1 ≤ k → Prc pl up x := by
    intro x h0 h1
    refine ⟨h0, ?_⟩
    by_cases e : x = 0
    · exact .inl e
    · exact .inr (h.some x h0 e h1)
  have hs0 : Prc pl up s0 := prc_le s0 p0 (.inl (by omega))
  rcases hc with ⟨_, h2⟩ | ⟨hcp, _, h2, h3⟩
  · exact absurd hs0 (h2 s0 ((hss s0 p0).2 ps))
  · have a2 : ∀ s, Prc pl up s → b ∈ T s → Anc up s c := fun s hs hbs => h2 s ((hss s hs.1).2 hbs) hs
    have a0 := (a2 s0 hs0 ps).prc h.ok hs0
    have hcb : pl c < pl b := by omega
    have hc0 : 0 ≤ c := hr c hcp.1
    have a3 : ∀ d, d ≠ b → Dm T d b → Dm T d c := fun d hne hd => h3 d (fun s hs hsp => hd.src hne ((hss s hsp.1).1 hs))
    have hcne : c ≠ b := by rintro rfl; omega
    -- what stands above the changed one
    have ab : ∀ d, Anc (updI up b c) b d → d = b ∨ Anc up c d := by
      intro d hd
      cases hd with
      | refl => exact .inl rfl
      | step _ hd =>
        rw [upd_at] at hd
        exact .inr (anc_below h.ok hd hcp hcb)
    have nb : ∀ d, Anc (updI up b c) b d → ¬ RA T pl d k b := by
      intro d hd
      rcases ab d hd with rfl | hd
      · exact RA.self
      · intro hra
        cases hra with
        | zero => exact hb0 rfl
        | @adv _ s _ hs hbs hne hl =>
          have hsr := (hp.reach s).2 hs.reach
          have hsp := prc_le s hsr (.inl (by omega))
          exact h.lo s d hsp (by omega) ((a2 s hsp hbs).trans hd) hs
        | @ret k' s _ hs hbs hne =>
          have hsr := (hp.reach s).2 hs.reach
          have hsp := prc_le s hsr (.inr (by omega))
          exact h.hi (by omega) s d hsp ((a2 s hsp hbs).trans hd) (by simpa using hs)
    refine ⟨hc0, hcp, hcb, a2, a3, ⟨⟨fun x hx hne => ?_, fun x d hx hne hd hdx => ?_⟩, fun x hx hne hj' => ?_, fun x hx => ?_, fun hk x hx => ?_, fun x d hx hj' hd hra => ?_, fun hk x d hx hd hra => ?_⟩⟩
    · by_cases e : x = b
      · subst e
        rw [upd_at]
        exact ⟨upd_prc hc0 hcp, hcb⟩
      · rw [upd_ne e]
        obtain ⟨h1, h2⟩ := h.ok.low x (prc_upd hx e) hne
        exact ⟨upd_prc hc0 h1, h2⟩
    · by_cases e : x = b
      · subst e
        rw [upd_at]
        exact a3 d hdx hd
      · rw [upd_ne e]
        exact h.ok.dom x d (prc_upd hx e) hne hd hdx
    · by_cases e : x = b
      · subst e
        rw [upd_at]
        exact hc0
      · rw [upd_ne e]
        refine h.some x hx hne (hj'.imp (fun h1 => ?_) id)
        by_cases e2 : pl x = j + 1
        · exact absurd (hp.inj x b hx (by omega)) e
        · omega
    · have e : x ≠ b := by
        rintro rfl
        omega
      rw [upd_ne e]
      exact h.off x hx
    · have e : x ≠ b := by
        rintro rfl
        omega
      rw [upd_ne e]
      exact h.non hk x (by omega)
    · by_cases e : x = b
      · subst e
        exact nb d hd hra
      · have hx' := prc_upd hx e
        have hxj : pl x ≤ j := by
          by_cases e2 : pl x = j + 1
          · exact absurd (hp.inj x b hx.1 (by omega)) e
          · omega
        rcases anc_upd hd with hd | ⟨hxb, hd⟩
        · exact h.lo x d hx' hxj hd hra
        · rcases RA.cut (b := b) hra with h1 | h1
          · exact h.lo x b hx' hxj hxb h1
          · exact nb d hd h1
    · by_cases e : x = b
      · subst e
        exact nb d hd (hra.le (by omega))
      · have hx' := prc_upd hx e
        rcases anc_upd hd with hd | ⟨hxb, hd⟩
        · exact h.hi hk x d hx' hd hra
        · rcases RA.cut (b := b) hra with h1 | h1
          · exact h.hi hk x b hx' hxb h1
          · exact nb d hd (h1.le (by omega))
end

theorem Rnd.start (hp : Plc T pl) : Rnd T pl (fun _ => -1) 0 0 := by
  have hz : ∀ x, Prc pl (fun _ => -1) x → x = 0 := by
    rintro x ⟨_, h | h⟩
    · exact h
    · have h : (0 : Int) ≤ -1 := h
      omega
  refine ⟨⟨fun x hx hne => absurd (hz x hx) hne, fun x d hx hne => absurd (hz x hx) hne⟩, fun x hx hne h => ?_, fun _ _ => rfl, fun _ _ _ => rfl, fun x d hx _ hd => ?_, fun h => absurd h (by decide)⟩
  · exfalso
    rcases h with h | h
    · exact hne (hp.inj x 0 hx (by rw [hp.zero]; omega))
    · omega
  · have := hz x hx
    subst this
    rw [hd.zero]
    exact RA.self
theorem Rnd.turn {k : Nat} {j : Int} (hp : Plc T pl) (h : Rnd T pl up k j) (hj : ∀ x, pl x ≤ j) : Rnd T pl up (k + 1) 0 := by
  refine ⟨h.ok, fun x hx hne _ => h.some x hx hne (.inl (hj x)), h.off, fun h => absurd h (by omega), fun x d hx h0 hd => ?_, fun _ x d hx hd => by simpa using h.lo x d hx (hj x) hd⟩
  have : x = 0 := hp.inj x 0 hx.1 (by have := hx.1; rw [hp.zero]; omega)
  subst this
  rw [hd.zero]
  exact RA.self

/-- Behind so many rounds nothing turns. -/
theorem Rnd.full {k n : Nat} {j : Int} {b c : Int} (hp : Plc T pl) (hR : ∀ x, Reach T x → 0 ≤ x ∧ x < (n : Int)) (h : Rnd T pl up k j) (hk : n + 2 ≤ k) (hb : 0 ≤ pl b) (hb0 : b ≠ 0) (hcp : Prc pl up c) (hcb : pl c < pl b)
    (a2 : ∀ s, Prc pl up s → b ∈ T s → Anc up s c) (a3 : ∀ d, d ≠ b → Dm T d b → Dm T d c) : up b = c := by
  have prc : ∀ x, 0 ≤ pl x → Prc pl up x := fun x h0 => ⟨h0, by
    by_cases e : x = 0
    · exact .inl e
    · exact .inr (h.some x h0 e (.inr (by omega)))⟩
  have dm : ∀ x d, Prc pl up x → Anc up x d → Dm T d x := fun x d hx hd => RA.all (pl := pl) hR (n := n) (fun hra => h.hi (by omega) x d hx hd (hra.le (by omega)))
  have hbp := prc b hb
  obtain ⟨h1, h2⟩ := h.ok.low b hbp hb0
  have hub : up b ≠ b := by
    intro e
    rw [e] at h2
    omega
  have e1 : Anc up c (up b) := h.ok.anc hcp (a3 _ hub (dm b _ hbp (.step hb0 (.refl _))))
  have hcne : c ≠ b := by rintro rfl; omega
  have dcb : Dm T c b := by
    rintro ⟨hc0, hr⟩
    cases hr with
    | zero => exact hb0 rfl
    | @step s _ hs hbs =>
      have hbs' := (mem_tgb.1 hbs).1
      have hsr : Reach T s := by
        have key : ∀ x, Reach (tgb T c) x → Reach T x := by
          intro x hx
          induction hx with
          | zero => exact .zero
          | step _ ht ih => exact .step ih (mem_tgb.1 ht).1
        exact key s hs
      have hsp := prc s ((hp.reach s).2 hsr)
      exact dm s c hsp (a2 s hsp hbs') ⟨hc0, hs⟩
  have e2 : Anc up (up b) c := h.ok.anc h1 (h.ok.dom b c hbp hb0 dcb hcne)
  have q1 := (e1.prc h.ok hcp).2.1
  have q2 := (e2.prc h.ok h1).2.1
  exact hp.inj _ _ h1.1 (by omega)

/-- Where nothing turns any more. -/
def Stl (T : Int → List Int) (pl up : Int → Int) (j : Int) : Prop := ∀ b s, 1 ≤ pl b → pl b ≤ j → 0 ≤ pl s → b ∈ T s → Anc up s (up b)
theorem Stl.start : Stl T pl up 0 := fun b s h h' => by omega
theorem Stl.next {j b : Int} (hp : Plc T pl) (h : Stl T pl up j) (hb : pl b = j + 1) (ha : ∀ s, 0 ≤ pl s → b ∈ T s → Anc up s (up b)) : Stl T pl up (j + 1) := by
  intro x s h1 h2 hs hx
  by_cases e : pl x = j + 1
  · have : x = b := hp.inj x b (by omega) (by omega)
    exact this ▸ ha s hs (this ▸ hx)
  · exact h x s h1 (by omega) hs hx
theorem Stl.dm {j : Int} (hp : Plc T pl) (h : Stl T pl up j) (hj : ∀ x, pl x ≤ j) {x d : Int} (ha : Anc up x d) : Dm T d x := by
  rintro ⟨hd, hr⟩
  have toR : ∀ x, Reach (tgb T d) x → Reach T x := by
    intro x hx
    induction hx with
    | zero => exact .zero
    | step _ ht ih => exact .step ih (mem_tgb.1 ht).1
  induction hr with
  | zero => exact hd ha.zero
  | @step y t hy ht ih =>
    obtain ⟨ht', hne⟩ := mem_tgb.1 ht
    cases ha with
    | refl => exact hne rfl
    | step h0 ha =>
      have hyr := (hp.reach y).2 (toR y hy)
      have htr := (hp.reach t).2 (.step (toR y hy) ht')
      have : 1 ≤ pl t := by
        by_cases e : pl t = 0
        · exact absurd (hp.inj t 0 htr (by rw [hp.zero]; exact e)) h0
        · omega
      exact ih ((h t y this (hj t) hyr ht').trans ha)

theorem Anc.total {x y z : Int} (h : Anc up x y) (h' : Anc up x z) : Anc up y z ∨ Anc up z y := by
  induction h with
  | refl => exact .inl h'
  | @step x d hne h ih =>
    cases h' with
    | refl => exact .inr (.step hne h)
    | step _ h' => exact ih h'
end
end Go.Mor

/-
  What dom.tree ends with; where what stands above ends. No program in sight.
-/
import Derived.Test.YtlkpkinmmjcbcaaM8
namespace Go.Mor
open Go.RowKit

/-- The list of what stands above, as a function with its facts. -/
structure FinU (bs : List SB) (up : Int → Int) : Prop where
  of : IntsOf bs.length (raboveL bs) up
  ok : Up (tg bs) (plB bs) up
  prc : ∀ x, 0 ≤ plB bs x → Prc (plB bs) up x
  off : ∀ x, (plB bs x < 0 ∨ x = 0) → up x = -1
  dm : ∀ x d, Anc up x d → Dm (tg bs) d x
def FinUp (bs : List SB) : Prop := 0 < bs.length → ∃ up, FinU bs up
theorem fin_up {bs : List SB} {up : Int → Int} {ab : List Int} {k : Nat} {j : Int} (hr : 0 < bs.length → Rnd (tg bs) (plB bs) up k 0) (hk : 1 ≤ k) (hs : Stl (tg bs) (plB bs) up j) (hj : ∀ x, plB bs x ≤ j) (hab : IntsOf bs.length ab up) : FinUp bs := by
  intro h0
  have hr0 := hr h0
  refine ⟨up, ab_end hr hk hs hj hab ▸ hab, hr0.ok, fun x h => ⟨h, ?_⟩, hr0.off, fun x d h => hs.dm (plB_plc h0) hj h⟩
  by_cases e : x = 0
  · exact .inl e
  · exact .inr (hr0.some x h e (.inr hk))

/-- From one block up, till a block is met. -/
inductive Seg (up : Int → Int) (stop : Int) : Int → Int → Prop
  | here {x : Int} : 0 ≤ x → x ≠ stop → Seg up stop x x
  | next {x d : Int} : 0 ≤ x → x ≠ stop → Seg up stop (up x) d → Seg up stop x d
theorem seg_no {up : Int → Int} {stop x d : Int} (h : x < 0 ∨ x = stop) : ¬ Seg up stop x d := by
  intro hs
  cases hs with
  | here h1 h2 => rcases h with h | h; omega; exact h2 h
  | next h1 h2 _ => rcases h with h | h; omega; exact h2 h
theorem seg_iff {up : Int → Int} {stop x d : Int} (h1 : 0 ≤ x) (h2 : x ≠ stop) : Seg up stop x d ↔ d = x ∨ Seg up stop (up x) d := by
  constructor
  · intro h
    cases h with
    | here => exact .inl rfl
    | next _ _ h => exact .inr h
  · rintro (rfl | h)
    · exact .here h1 h2
    · exact .next h1 h2 h
section
variable {bs : List SB} {up : Int → Int}
theorem seg_anc (hf : FinU bs up) {stop x d : Int} (h : Seg up stop x d) : Anc up x d := by
  induction h with
  | here => exact .refl _
  | @next x d h1 h2 h ih =>
    by_cases e : x = 0
    · subst e
      rw [hf.off 0 (.inr rfl)] at h
      exact absurd h (seg_no (.inl (by decide)))
    · exact .step e ih
theorem seg_stop {stop x d : Int} (h : Seg up stop x d) (ha : Anc up x stop) : d ≠ stop ∧ Anc up d stop := by
  induction h with
  | here _ h2 => exact ⟨h2, ha⟩
  | @next x d h1 h2 h ih =>
    cases ha with
    | refl => exact absurd rfl h2
    | step _ ha => exact ih ha
theorem anc_seg (h0 : 0 < bs.length) (hf : FinU bs up) {stop x d : Int} (h : Anc up x d) (hx : 0 ≤ plB bs x) : Seg up stop x d ∨ Anc up stop d := by
  induction h with
  | refl x =>
    by_cases e : x = stop
    · exact .inr (e ▸ .refl _)
    · exact .inl (.here (plB_rng h0 hx).1 e)
  | @step x d hne h ih =>
    by_cases e : x = stop
    · exact .inr (e ▸ .step hne h)
    · have h1 := (hf.ok.low x (hf.prc x hx) hne).1.1
      exact (ih h1).imp (fun h => .next (plB_rng h0 hx).1 e h) id
/-- The blocks of which i is the edge, by way of the source s. -/
theorem seg_edge (h0 : 0 < bs.length) (hf : FinU bs up) {i s d : Int} (hi : 0 ≤ plB bs i) (hs : 0 ≤ plB bs s) (hsi : i ∈ tg bs s) : Seg up (up i) s d ↔ Dm (tg bs) d s ∧ (d = i ∨ ¬ Dm (tg bs) d i) := by
  have hP := plB_plc h0
  constructor
  · intro h
    have ha := seg_anc hf h
    refine ⟨hf.dm _ _ ha, ?_⟩
    by_cases e : d = i
    · exact .inl e
    · right
      intro hd
      by_cases ei : i = 0
      · subst ei
        exact e hd.at_zero
      · have l := hf.ok.low i (hf.prc i hi) ei
        have hdu : Dm (tg bs) d (up i) := hf.ok.dom i d (hf.prc i hi) ei hd e
        have hui : up i ≠ i := by
          intro e2
          have := l.2
          rw [e2] at this
          omega
        have hus : Dm (tg bs) (up i) s := (hf.dm i (up i) (.step ei (.refl _))).src hui hsi
        have h2 := seg_stop h (hf.ok.anc (hf.prc s hs) hus)
        have q0 := Dm.le hP l.1.1 hdu
        have hdr : 0 ≤ plB bs d := (ha.prc hf.ok (hf.prc s hs)).1.1
        have q1 := (h2.2.prc hf.ok (hf.prc d hdr)).2.1
        exact h2.1 (hP.inj _ _ hdr (by omega))
  · rintro ⟨h1, h2⟩
    rcases anc_seg (stop := up i) h0 hf (hf.ok.anc (hf.prc s hs) h1) hs with h | h
    · exact h
    · exfalso
      by_cases ei : i = 0
      · subst ei
        rw [hf.off 0 (.inr rfl)] at h
        have : ∀ y z, Anc up y z → y < 0 → z < 0 := by
          intro y z hyz
          induction hyz with
          | refl => exact fun h => h
          | @step y z hne _ ih =>
            intro hy
            refine ih ?_
            rw [hf.off y (.inl (by
              by_cases e : 0 ≤ plB bs y
              · have := (plB_rng h0 e).1; omega
              · omega))]
            decide
        have hdr : 0 ≤ plB bs d := (hP.reach d).2 (Dm.reach ((hP.reach s).1 hs) h1)
        have := this _ _ h (by decide)
        have := (plB_rng h0 hdr).1
        omega
      · have l := hf.ok.low i (hf.prc i hi) ei
        have hd : Dm (tg bs) d i := hf.dm i d (.step ei h)
        rcases h2 with rfl | h2
        · have := (h.prc hf.ok l.1).2.1
          omega
        · exact h2 hd
end

/-! ### the lists in the making -/
def emid (bs : List SB) (i : Nat) (S : Int → Bool) : List (List Int) := (List.range bs.length).map (fun d : Nat => redgeTo bs d i ++ (if S (d : Int) = true then [(i : Int)] else []))
theorem emid_start (bs : List SB) : emid bs 0 (fun _ => false) = List.replicate bs.length [] := by
  unfold emid
  apply List.ext_getElem?
  intro t
  by_cases h : t < bs.length
  · simp [h, redgeTo]
  · rw [List.getElem?_eq_none (by simpa using h), List.getElem?_eq_none (by simpa using h)]
theorem emid_get {bs : List SB} {i d : Nat} {S : Int → Bool} (hd : d < bs.length) : (emid bs i S)[d]? = some (redgeTo bs d i ++ (if S (d : Int) = true then [(i : Int)] else [])) := by simp [emid, hd]
theorem emid_set {bs : List SB} {i d : Nat} {S : Int → Bool} (hd : d < bs.length) (_hS : S (d : Int) = false) : (emid bs i S).set d (redgeTo bs d i ++ [(i : Int)]) = emid bs i (addS S (d : Int)) := by
  apply List.ext_getElem?
  intro t
  by_cases h : d = t
  · subst h
    rw [List.getElem?_set_self (by simpa [emid] using hd), emid_get hd]
    simp [addS]
  · rw [List.getElem?_set_ne h]
    by_cases h2 : t < bs.length
    · rw [emid_get h2, emid_get h2]
      have h3 : ¬ ((t : Int) = (d : Int)) := by omega
      have : addS S (d : Int) (t : Int) = S (t : Int) := by simp [addS, h3]
      rw [this]
    · rw [List.getElem?_eq_none (by simpa [emid] using h2), List.getElem?_eq_none (by simpa [emid] using h2)]
theorem emid_add {bs : List SB} {i d : Nat} {S : Int → Bool} (hS : S (d : Int) = true) : emid bs i (addS S (d : Int)) = emid bs i S := by
  have : addS S (d : Int) = S := by
    funext x
    by_cases e : x = (d : Int)
    · subst e; simp [addS, hS]
    · simp [addS, e]
  rw [this]
theorem emid_next {bs : List SB} {i : Nat} {S : Int → Bool} (hS : ∀ d : Nat, d < bs.length → S (d : Int) = edgeP bs d i) : emid bs i S = emid bs (i + 1) (fun _ => false) := by
  unfold emid
  apply List.map_congr_left
  intro d hd
  have hd' : d < bs.length := by simpa using hd
  rw [hS d hd']
  cases h : edgeP bs d i with
  | true => rw [redgeTo_yes h]; simp
  | false => rw [redgeTo_no h]; simp
theorem emid_end (bs : List SB) : emid bs bs.length (fun _ => false) = redgeL bs := by
  unfold emid redgeL
  simp
theorem edge_iff {bs : List SB} {d i : Nat} (hd : d < bs.length) (hi : i < bs.length) : edgeP bs d i = true ↔ (∃ s, s ∈ srcs bs (i : Int) ∧ Reach (tg bs) s ∧ Dm (tg bs) (d : Int) s) ∧ ((d : Int) = (i : Int) ∨ ¬ (Reach (tg bs) (i : Int) ∧ Dm (tg bs) (d : Int) (i : Int))) := by
  unfold edgeP
  rw [Bool.and_eq_true, List.any_eq_true, Bool.or_eq_true, beq_iff_eq, Bool.not_eq_true', ← Bool.not_eq_true, at2_over hd hi]
  refine and_congr ⟨?_, ?_⟩ (or_congr ⟨fun h => by omega, fun h => by omega⟩ Iff.rfl)
  · rintro ⟨s, hs, h⟩
    have hr := srcs_mem hs
    obtain ⟨q, rfl⟩ := Int.eq_ofNat_of_zero_le hr.1
    have := (at2_over hd (by omega)).1 h
    exact ⟨_, hs, this.1, this.2⟩
  · rintro ⟨s, hs, h⟩
    have hr := srcs_mem hs
    obtain ⟨q, rfl⟩ := Int.eq_ofNat_of_zero_le hr.1
    exact ⟨_, hs, (at2_over hd (by omega)).2 h⟩
theorem edge_none {bs : List SB} (h0 : 0 < bs.length) {i : Nat} (hi : i < bs.length) (h : plB bs (i : Int) < 0) : ∀ d : Nat, d < bs.length → false = edgeP bs d i := by
  intro d hd
  have : ¬ edgeP bs d i = true := by
    rw [edge_iff hd hi]
    rintro ⟨⟨s, hs, hr, _⟩, _⟩
    have := ((plB_plc h0).reach (i : Int)).2 (.step hr (mem_srcs.1 hs).2)
    omega
  simpa using this
theorem edge_done {bs : List SB} {up : Int → Int} (h0 : 0 < bs.length) (hf : FinU bs up) {i : Nat} (hi : i < bs.length) (hr : 0 ≤ plB bs (i : Int)) {S : Int → Bool} (hS : ∀ d, S d = true ↔ ∃ s, s ∈ srcs bs (i : Int) ∧ 0 ≤ plB bs s ∧ Seg up (up (i : Int)) s d) :
    ∀ d : Nat, d < bs.length → S (d : Int) = edgeP bs d i := by
  intro d hd
  have hP := plB_plc h0
  have hir := (hP.reach _).1 hr
  rw [Bool.eq_iff_iff, hS, edge_iff hd hi]
  constructor
  · rintro ⟨s, hs, hsr, h⟩
    have := (seg_edge h0 hf hr hsr (mem_srcs.1 hs).2).1 h
    exact ⟨⟨s, hs, (hP.reach s).1 hsr, this.1⟩, this.2.imp id fun h h2 => h h2.2⟩
  · rintro ⟨⟨s, hs, hsr, h⟩, h2⟩
    have hsr' := (hP.reach s).2 hsr
    exact ⟨s, hs, hsr', (seg_edge h0 hf hr hsr' (mem_srcs.1 hs).2).2 ⟨h, h2.imp id fun h h3 => h ⟨hir, h3⟩⟩⟩
end Go.Mor

/-
  A chain of loops: what is reached, what stands above, where it ends, the order. No program in sight.
-/
import Derived.Test.YtlkpkinmmjcbcaaM13
import Derived.Test.YtlkpkinmmjcbcaaM11
namespace Go.Mor
open Go.RowKit

def lnk (i : Nat) : SB := ⟨none, 0, 0, none, 0, 0, 1, 0, (i : Int) + 1, (i : Int)⟩
def lnkE : SB := ⟨none, 0, 0, none, 0, 0, 2, 0, 0, 0⟩
def lnks (k : Nat) : List SB := (List.range k).map lnk
def chain (k : Nat) : List SB := lnks k ++ [lnkE]
theorem lnks_len (k : Nat) : (lnks k).length = k := by simp [lnks]
theorem chain_len (k : Nat) : (chain k).length = k + 1 := by simp [chain, lnks_len]
theorem lnks_flat (k : Nat) : (lnks k).flatMap SB.cells ++ (lnk k).cells = (lnks (k + 1)).flatMap SB.cells := by simp [lnks, List.range_succ]
theorem chain_flat (k : Nat) : (lnks k).flatMap SB.cells ++ lnkE.cells = (chain k).flatMap SB.cells := by simp [chain]
theorem chain_get {k i : Nat} (h : i < k) : (chain k)[i]? = some (lnk i) := by
  rw [chain, List.getElem?_append_left (by rw [lnks_len]; exact h)]
  simp [lnks, h]
theorem chain_last (k : Nat) : (chain k)[k]? = some lnkE := by
  rw [chain, List.getElem?_append_right (by rw [lnks_len]; exact Nat.le_refl _), lnks_len]
  simp
theorem chain_tg {k : Nat} {x t : Int} : t ∈ tg (chain k) x ↔ (0 ≤ x ∧ x < k) ∧ (t = x + 1 ∨ t = x) := by
  by_cases h : 0 ≤ x ∧ x ≤ k
  · obtain ⟨i, rfl⟩ := Int.eq_ofNat_of_zero_le h.1
    by_cases hk : i < k
    · rw [tg_in (x := lnk i) (by omega) (by rw [Int.toNat_natCast]; exact chain_get hk)]
      have hne : ¬ ((i : Int) + 1 = (i : Int)) := by omega
      have e : tgx (chain k).length (lnk i) = [(i : Int) + 1, (i : Int)].filter (inR (chain k).length) := by
        unfold tgx
        rw [if_neg (show ¬ (lnk i).e = 0 from fun h => by cases h), if_pos (show (lnk i).e = 1 from rfl), if_neg (show ¬ (lnk i).a = (lnk i).b from hne)]
        rfl
      rw [e, chain_len]
      simp only [List.mem_filter, inR, Bool.and_eq_true, decide_eq_true_eq, List.mem_cons, List.not_mem_nil, or_false]
      constructor
      · rintro ⟨h1, _⟩
        exact ⟨by omega, h1⟩
      · rintro ⟨_, h1⟩
        exact ⟨h1, by omega, by omega⟩
    · obtain rfl : i = k := by omega
      rw [tg_in (x := lnkE) (by omega) (by rw [Int.toNat_natCast]; exact chain_last i)]
      simp [tgx, lnkE]
  · rw [tg_out (by rw [chain_len]; omega)]
    constructor
    · intro h; cases h
    · intro h'; omega
theorem chain_reach {k : Nat} {x : Int} : Reach (tg (chain k)) x ↔ 0 ≤ x ∧ x ≤ k := by
  constructor
  · intro h
    induction h with
    | zero => omega
    | step _ ht ih =>
      have := chain_tg.1 ht
      omega
  · rintro ⟨h1, h2⟩
    obtain ⟨i, rfl⟩ := Int.eq_ofNat_of_zero_le h1
    induction i with
    | zero => exact .zero
    | succ i ih => exact .step (ih (by omega) (by omega)) (chain_tg.2 ⟨by omega, .inl (by omega)⟩)
theorem chain_bar {k : Nat} {d x : Int} (hd : 0 < d) (hk : d ≤ k) : Reach (tgb (tg (chain k)) d) x ↔ 0 ≤ x ∧ x < d := by
  constructor
  · intro h
    induction h with
    | zero => omega
    | step _ ht ih =>
      obtain ⟨h1, h2⟩ := mem_tgb.1 ht
      have := chain_tg.1 h1
      omega
  · rintro ⟨h1, h2⟩
    obtain ⟨i, rfl⟩ := Int.eq_ofNat_of_zero_le h1
    induction i with
    | zero => exact .zero
    | succ i ih => exact .step (ih (by omega) (by omega)) (mem_tgb.2 ⟨chain_tg.2 ⟨by omega, .inl (by omega)⟩, by omega⟩)
theorem chain_dm {k : Nat} {d x : Int} (hd : 0 ≤ d) (hk : d ≤ k) (hx : 0 ≤ x) : Dm (tg (chain k)) d x ↔ d ≤ x := by
  unfold Dm
  by_cases h : d = 0
  · subst h
    exact ⟨fun _ => hx, fun _ h => h.1 rfl⟩
  · rw [chain_bar (by omega) hk]
    constructor
    · intro h1
      rcases Int.lt_or_le x d with h2 | h2
      · exact absurd ⟨h, hx, h2⟩ h1
      · exact h2
    · intro h1 h2
      omega
theorem chain_at2 {k d b : Nat} (hd : d ≤ k) (hb : b ≤ k) : at2 (overL (chain k)) d b = decide (d ≤ b) := by
  rw [Bool.eq_iff_iff, at2_over (by rw [chain_len]; omega) (by rw [chain_len]; omega), chain_reach, chain_dm (by omega) (by omega) (by omega), decide_eq_true_eq]
  omega
theorem chain_best {k b : Nat} (hb : b ≤ k) : ∀ m, m ≤ k + 1 → bestTo (overL (chain k)) b m = if m ≤ b then (m : Int) - 1 else (b : Int) - 1 := by
  intro m
  induction m with
  | zero => intro _; simp [bestTo]
  | succ m ih =>
    intro hm
    unfold bestTo
    rw [ih (by omega), chain_at2 (by omega) hb]
    by_cases h : m < b
    · rw [if_pos (by omega : m ≤ b), if_pos (by omega : m + 1 ≤ b), if_pos]
      · omega
      · refine ⟨by omega, by rw [decide_eq_true_eq]; omega, ?_⟩
        by_cases h0 : m = 0
        · left; omega
        · right
          rw [chain_at2 (by omega) (by omega)]
          simp
    · rw [if_neg (by omega : ¬ m + 1 ≤ b), if_neg]
      · split <;> omega
      · rintro ⟨h1, h2, _⟩
        simp at h2
        omega
theorem chain_above {k i : Nat} (hi : i ≤ k) : (ints (raboveL (chain k)))[(i : Int).toNat]? = some (.int .i64 ((i : Int) - 1)) := by
  have hl : (overL (chain k)).length = k + 1 := by rw [overL_len, chain_len]
  have : bestTo (overL (chain k)) i (k + 1) = (i : Int) - 1 := by rw [chain_best hi _ (Nat.le_refl _), if_neg (by omega)]
  simp only [ints, raboveL, aboveOfL, hl, Int.toNat_natCast, List.getElem?_map]
  rw [List.getElem?_range (by omega)]
  simp [this]
theorem chain_src {k : Nat} {y s : Int} : s ∈ srcs (chain k) y ↔ (0 ≤ s ∧ s < k) ∧ (y = s + 1 ∨ y = s) := by
  rw [mem_srcs, chain_tg, chain_len]
  omega
theorem chain_edgeP {k b y : Nat} (hb : b ≤ k) (hy : y ≤ k) : edgeP (chain k) b y = decide (y = b ∧ b < k) := by
  rw [Bool.eq_iff_iff]
  simp only [edgeP, Bool.and_eq_true, List.any_eq_true, Bool.or_eq_true, beq_iff_eq, Bool.not_eq_true', decide_eq_true_eq]
  rw [chain_at2 hb hy]
  constructor
  · rintro ⟨⟨s, h1, h2⟩, h3⟩
    have h4 := chain_src.1 h1
    rw [chain_at2 hb (by omega), decide_eq_true_eq] at h2
    rcases h3 with h3 | h3
    · omega
    · rw [decide_eq_false_iff_not] at h3
      omega
  · rintro ⟨rfl, h⟩
    exact ⟨⟨(y : Int), chain_src.2 ⟨by omega, .inr rfl⟩, by rw [chain_at2 hb (by omega)]; simp⟩, .inl rfl⟩
theorem filter_one (b n : Nat) (h : b < n) : (List.range n).filter (fun y => decide (y = b)) = [b] := by
  induction n with
  | zero => omega
  | succ n ih =>
    rw [List.range_succ, List.filter_append]
    by_cases e : b = n
    · subst e
      rw [List.filter_eq_nil_iff.2 (fun y hy => by simp at hy ⊢; omega)]
      simp
    · rw [ih (by omega)]
      simp; omega
theorem chain_edge {k b : Nat} (h : b < k) : (redgeL (chain k))[b]? = some [(b : Int)] := by
  rw [redgeL_get (by rw [chain_len]; omega)]
  congr 1
  unfold redgeTo
  rw [chain_len, List.filter_congr (q := fun y => decide (y = b)) (fun y hy => by
    rw [chain_edgeP (by omega) (by simp at hy; omega)]
    simp [h]), filter_one b (k + 1) (by omega)]
  rfl
theorem chain_edge_end (k : Nat) : (redgeL (chain k))[k]? = some [] := by
  rw [redgeL_get (by rw [chain_len]; omega)]
  congr 1
  unfold redgeTo
  rw [chain_len, List.filter_eq_nil_iff.2 (fun y hy => by
    rw [chain_edgeP (by omega) (by simp at hy; omega)]
    simp)]
  rfl
theorem chain_plc (k : Nat) : ∀ i : Nat, i ≤ k → plB (chain k) (i : Int) = (i : Int) := by
  have h0 : 0 < (chain k).length := by rw [chain_len]; omega
  have hp := plB_plc h0
  have hr : ∀ i : Nat, i ≤ k → 0 ≤ plB (chain k) (i : Int) := fun i hi => (hp.reach _).2 (chain_reach.2 ⟨by omega, by omega⟩)
  have hs : ∀ i : Nat, i + 1 ≤ k → plB (chain k) (i : Int) + 1 ≤ plB (chain k) ((i + 1 : Nat) : Int) := by
    intro i hi
    obtain ⟨s, h1, h2, h3⟩ := hp.src ((i + 1 : Nat) : Int) (hr _ hi) (by omega)
    have := chain_tg.1 h3
    rcases this.2 with e | e
    · have : s = (i : Int) := by omega
      subst this
      omega
    · rw [← e] at h2
      omega
  have hlo : ∀ i : Nat, i ≤ k → (i : Int) ≤ plB (chain k) (i : Int) := by
    intro i
    induction i with
    | zero => exact fun _ => hr 0 (by omega)
    | succ i ih => intro hi; have := ih (by omega); have := hs i hi; omega
  have hhi : ∀ m i : Nat, i + m = k → plB (chain k) (i : Int) ≤ (i : Int) := by
    intro m
    induction m with
    | zero =>
      intro i hi
      have h1 := plB_lt (chain k) (i : Int)
      have h2 := orderL_len (chain k)
      rw [chain_len] at h2
      omega
    | succ m ih =>
      intro i hi
      have := ih (i + 1) (by omega)
      have := hs i (by omega)
      omega
  intro i hi
  have := hlo i hi
  have := hhi (k - i) i (by omega)
  omega
theorem chain_ord {k i : Nat} (hi : i ≤ k) : (orderL (chain k))[i]? = some (i : Int) :=
  plc_get (order_ok (by rw [chain_len]; omega)).nodup (chain_plc k i hi)
theorem chain_olen (k : Nat) : (orderL (chain k)).length = k + 1 := by
  have h1 := orderL_len (chain k)
  rw [chain_len] at h1
  have h2 := (List.getElem?_eq_some_iff.1 (chain_ord (Nat.le_refl k))).1
  omega
end Go.Mor

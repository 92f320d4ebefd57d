/-
  Texts of the proof, part 7.
-/
import Derived.Test.YtlfbloadopeamaaDoorZD6
namespace Go.Mor
open Go.RowKit
structure SetsR (n nb : Nat) (rows : List RowV) (SS : Int → Int → Bool) : Prop where
  len : rows.length = nb
  at_ : ∀ k : Nat, k < nb → ∃ A c ws, rows[k]? = some ⟨A, (n + 63) / 64, c, u64s ws⟩ ∧ SetW n ws (SS (k : Int))
structure SetsTo (n nb k : Nat) (rows : List RowV) : Prop where
  len : rows.length = nb
  at_ : ∀ q : Nat, q < k → ∃ A c ws, rows[q]? = some ⟨A, (n + 63) / 64, c, u64s ws⟩ ∧ SetW n ws (fun _ => false)
  nil : ∀ q : Nat, k ≤ q → q < nb → rows[q]? = some nilV
def updS (SS : Int → Int → Bool) (k : Int) (S : Int → Bool) : Int → Int → Bool := fun b => if b = k then S else SS b
theorem updS_at {SS : Int → Int → Bool} {k : Int} {S : Int → Bool} : updS SS k S k = S := by simp [updS]
theorem updS_ne {SS : Int → Int → Bool} {k b : Int} {S : Int → Bool} (h : b ≠ k) : updS SS k S b = SS b := by simp [updS, h]
section
variable {n nb k : Nat} {rows : List RowV} {SS : Int → Int → Bool}
theorem SetsR.set (h : SetsR n nb rows SS) {A : Option Addr} {c : Nat} {ws : List Nat} {S : Int → Bool} (hS : SetW n ws S) : SetsR n nb (rows.set k ⟨A, (n + 63) / 64, c, u64s ws⟩) (updS SS (k : Int) S) := by
  refine ⟨by rw [List.length_set, h.len], fun q hq => ?_⟩
  by_cases e : k = q
  · subst e
    exact ⟨A, c, ws, List.getElem?_set_self (by rw [h.len]; exact hq), by rw [updS_at]; exact hS⟩
  · obtain ⟨A', c', ws', h1, h2⟩ := h.at_ q hq
    exact ⟨A', c', ws', by rw [List.getElem?_set_ne e]; exact h1, by rw [updS_ne (by omega)]; exact h2⟩
theorem SetsTo.start : SetsTo n nb 0 (List.replicate nb nilV) := ⟨by simp, fun q hq => absurd hq (Nat.not_lt_zero _), fun q _ hq => by simp [hq]⟩
theorem SetsTo.next (h : SetsTo n nb k rows) {A : Option Addr} {c : Nat} (hk : k < nb) : SetsTo n nb (k + 1) (rows.set k ⟨A, (n + 63) / 64, c, u64s (List.replicate ((n + 63) / 64) 0)⟩) := by
  refine ⟨by rw [List.length_set, h.len], fun q hq => ?_, fun q hq hn => ?_⟩
  · by_cases e : k = q
    · subst e
      exact ⟨A, c, _, List.getElem?_set_self (by rw [h.len]; exact hk), SetW.start n⟩
    · obtain ⟨A', c', ws', h1, h2⟩ := h.at_ q (by omega)
      exact ⟨A', c', ws', by rw [List.getElem?_set_ne e]; exact h1, h2⟩
  · rw [List.getElem?_set_ne (by omega)]
    exact h.nil q (by omega) hn
theorem SetsTo.all (h : SetsTo n nb k rows) (hk : nb ≤ k) : SetsR n nb rows (fun _ _ => false) := ⟨h.len, fun q hq => h.at_ q (by omega)⟩
end
structure PhiDone (fs : List FBlk) (m j i : Nat) (SO : Int → Int → Bool) : Prop where
  sound : ∀ b v, SO b v = true → PhiOut fs b v
  blks : ∀ (t : Nat) (x : FBlk) (q : Nat) (p : FPhi) (r : Nat) (b v : Int), t < m → fs[t]? = some x → x.phis[q]? = some p → (srcs (bsOf fs) (t : Int))[r]? = some b → p.args[r]? = some v → SO b v = true
  phis : ∀ (x : FBlk) (q : Nat) (p : FPhi) (r : Nat) (b v : Int), q < j → fs[m]? = some x → x.phis[q]? = some p → (srcs (bsOf fs) (m : Int))[r]? = some b → p.args[r]? = some v → SO b v = true
  args : ∀ (x : FBlk) (p : FPhi) (r : Nat) (b v : Int), r < i → fs[m]? = some x → x.phis[j]? = some p → (srcs (bsOf fs) (m : Int))[r]? = some b → p.args[r]? = some v → SO b v = true
section
variable {fs : List FBlk} {m j i : Nat} {SO : Int → Int → Bool}
theorem PhiDone.start : PhiDone fs 0 0 0 (fun _ _ => false) := ⟨fun _ _ h => Bool.noConfusion h, fun _ _ _ _ _ _ _ h => absurd h (Nat.not_lt_zero _), fun _ _ _ _ _ _ h => absurd h (Nat.not_lt_zero _), fun _ _ _ _ _ h => absurd h (Nat.not_lt_zero _)⟩
theorem PhiDone.arg (h : PhiDone fs m j i SO) {x : FBlk} {p : FPhi} {b v : Int} (hx : fs[m]? = some x) (hp : x.phis[j]? = some p) (hb : (srcs (bsOf fs) (m : Int))[i]? = some b) (hv : p.args[i]? = some v) : PhiDone fs m j (i + 1) (updS SO b (addS (SO b) v)) := by
  have keep : ∀ b' v', SO b' v' = true → updS SO b (addS (SO b) v) b' v' = true := by
    intro b' v' h'
    by_cases e : b' = b
    · subst e
      rw [updS_at]
      unfold addS
      rw [h', Bool.or_true]
    · rw [updS_ne e]; exact h'
  refine ⟨fun b' v' h' => ?_, fun t y q p' r b' v' h1 h2 h3 h4 h5 => keep _ _ (h.blks t y q p' r b' v' h1 h2 h3 h4 h5), fun y q p' r b' v' h1 h2 h3 h4 h5 => keep _ _ (h.phis y q p' r b' v' h1 h2 h3 h4 h5), fun y p' r b' v' h1 h2 h3 h4 h5 => ?_⟩
  · by_cases e : b' = b
    · subst e
      rw [updS_at] at h'
      unfold addS at h'
      simp only [Bool.or_eq_true, beq_iff_eq] at h'
      rcases h' with h' | h'
      · subst h'; exact ⟨m, x, j, p, i, hx, hp, hb, hv⟩
      · exact h.sound _ _ h'
    · rw [updS_ne e] at h'; exact h.sound _ _ h'
  · by_cases e : r = i
    · subst e
      rw [hx] at h2; injection h2 with h2; subst h2
      rw [hp] at h3; injection h3 with h3; subst h3
      rw [hb] at h4; injection h4 with h4; subst h4
      rw [hv] at h5; injection h5 with h5; subst h5
      rw [updS_at]
      simp [addS]
    · exact keep _ _ (h.args y p' r b' v' (by omega) h2 h3 h4 h5)
theorem PhiDone.phi (h : PhiDone fs m j i SO) {x : FBlk} (_hx : fs[m]? = some x) (hi : (srcs (bsOf fs) (m : Int)).length ≤ i) : PhiDone fs m (j + 1) 0 SO := by
  refine ⟨h.sound, h.blks, fun y q p r b v h1 h2 h3 h4 h5 => ?_, fun _ _ _ _ _ h => absurd h (Nat.not_lt_zero _)⟩
  by_cases e : q = j
  · subst e
    exact h.args y p r b v (by have := (List.getElem?_eq_some_iff.1 h4).1; omega) h2 h3 h4 h5
  · exact h.phis y q p r b v (by omega) h2 h3 h4 h5
theorem PhiDone.blk (h : PhiDone fs m j i SO) {x : FBlk} (hx : fs[m]? = some x) (hj : x.phis.length ≤ j) : PhiDone fs (m + 1) 0 0 SO := by
  refine ⟨h.sound, fun t y q p r b v h1 h2 h3 h4 h5 => ?_, fun _ _ _ _ _ _ h => absurd h (Nat.not_lt_zero _), fun _ _ _ _ _ h => absurd h (Nat.not_lt_zero _)⟩
  by_cases e : t = m
  · subst e
    rw [hx] at h2; injection h2 with h2; subst h2
    exact h.phis x q p r b v (by have := (List.getElem?_eq_some_iff.1 h3).1; omega) hx h3 h4 h5
  · exact h.blks t y q p r b v (by omega) h2 h3 h4 h5
theorem PhiDone.all (h : PhiDone fs m j i SO) (hm : fs.length ≤ m) : ∀ b v, PhiOut fs b v → SO b v = true := by
  rintro b v ⟨t, x, q, p, r, h1, h2, h3, h4⟩
  exact h.blks t x q p r b v (by have := (List.getElem?_eq_some_iff.1 h1).1; omega) h1 h2 h3 h4
end
structure LOk (n : Nat) (fs : List FBlk) (SI SO : Int → Int → Bool) : Prop where
  inn : ∀ b v, SI b v = true → LV fs true b v
  out : ∀ b v, SO b v = true → LV fs false b v
  phi : ∀ b v, PhiOut fs b v → SO b v = true
  less : ∀ (b : Nat) (x : FBlk), fs[b]? = some x → ∀ v, 0 ≤ v → SI (b : Int) v = true → intoS x (SO (b : Int)) v = true
def CloseAt (n : Nat) (fs : List FBlk) (SI SO : Int → Int → Bool) (b : Int) : Prop :=
  (∀ t v, t ∈ tg (bsOf fs) b → 0 ≤ v → v < (n : Int) → SI t v = true → SO b v = true) ∧ ∀ x, fs[b.toNat]? = some x → ∀ v, 0 ≤ v → v < (n : Int) → (intoS x (SO b) v = true → SI b v = true)
def LiveS (n : Nat) (fs : List FBlk) (SI SO : Int → Int → Bool) : Prop := ∀ b : Nat, b < fs.length → ∀ v : Int, 0 ≤ v → v < (n : Int) → (SI (b : Int) v = true ↔ LV fs true (b : Int) v) ∧ (SO (b : Int) v = true ↔ LV fs false (b : Int) v)
def unmetA (n nb : Nat) (SS : Int → Int → Bool) : Nat := ((List.range nb).map (fun k : Nat => unmet n (SS (k : Int)))).sum
section
variable {n : Nat} {fs : List FBlk} {SI SO : Int → Int → Bool}
theorem intoS_mono {x : FBlk} {S T : Int → Bool} {v : Int} (hv : 0 ≤ v) (h : S v = true → T v = true) (hi : intoS x S v = true) : intoS x T v = true := by
  rw [intoS_iff hv] at hi ⊢
  rcases hi with h1 | ⟨h1, h2⟩
  · exact .inl h1
  · exact .inr ⟨h h1, h2⟩
theorem LOk.start {m j i : Nat} (h : PhiDone fs m j i SO) (hm : fs.length ≤ m) : LOk n fs (fun _ _ => false) SO :=
  ⟨fun _ _ h => Bool.noConfusion h, fun b v h' => .phi (h.sound b v h'), h.all hm, fun _ _ _ _ _ h => Bool.noConfusion h⟩
theorem LOk.or (h : LOk n fs SI SO) {b t : Int} (ht : t ∈ tg (bsOf fs) b) : LOk n fs SI (updS SO b (orS (SO b) (SI t))) := by
  have keep : ∀ b' v', SO b' v' = true → updS SO b (orS (SO b) (SI t)) b' v' = true := by
    intro b' v' h'
    by_cases e : b' = b
    · subst e; rw [updS_at]; unfold orS; rw [h', Bool.true_or]
    · rw [updS_ne e]; exact h'
  refine ⟨h.inn, fun b' v' h' => ?_, fun b' v' h' => keep _ _ (h.phi b' v' h'), fun b' x hx v hv hs => intoS_mono hv (keep _ v) (h.less b' x hx v hv hs)⟩
  by_cases e : b' = b
  · subst e
    rw [updS_at] at h'
    unfold orS at h'
    rw [Bool.or_eq_true] at h'
    rcases h' with h' | h'
    · exact h.out _ _ h'
    · exact .edge ht (h.inn _ _ h')
  · rw [updS_ne e] at h'; exact h.out _ _ h'
theorem LOk.inn_ (h : LOk n fs SI SO) {b : Nat} {x : FBlk} (hx : fs[b]? = some x) {S : Int → Bool} (hS : ∀ v, S v = true → 0 ≤ v ∧ intoS x (SO (b : Int)) v = true) : LOk n fs (updS SI (b : Int) S) SO := by
  refine ⟨fun b' v' h' => ?_, h.out, h.phi, fun b' y hy v hv hs => ?_⟩
  · by_cases e : b' = (b : Int)
    · subst e
      rw [updS_at] at h'
      obtain ⟨h0, h1⟩ := hS v' h'
      rw [intoS_iff h0] at h1
      rcases h1 with h1 | ⟨h1, h2⟩
      · exact .use hx h1
      · exact .thru hx (h.out _ _ h1) h2
    · rw [updS_ne e] at h'; exact h.inn _ _ h'
  · by_cases e : (b' : Int) = (b : Int)
    · have : b' = b := by omega
      subst this
      rw [hx] at hy; injection hy with hy; subst hy
      rw [updS_at] at hs
      exact (hS v hs).2
    · rw [updS_ne e] at hs; exact h.less b' y hy v hv hs
theorem live_done (hr : ∀ x, x ∈ fs → VR n x) (hp : ∀ b v, PhiOut fs b v → 0 ≤ v ∧ v < (n : Int)) (h : LOk n fs SI SO) (hc : ∀ b : Nat, b < fs.length → CloseAt n fs SI SO (b : Int)) : LiveS n fs SI SO := by
  -- what is told of blocks and values that there are, the rest said to be all
  have key : ∀ {q : Bool} {b v : Int}, LV fs q b v → 0 ≤ b → b < (fs.length : Int) → (if q then SI b v else SO b v) = true := by
    intro q b v hl
    induction hl with
    | @use b x v hx hu =>
      intro _ _
      have hb := (List.getElem?_eq_some_iff.1 hx).1
      have hv := lv_range hr hp (LV.use hx hu)
      exact (hc b hb).2 x (by simpa using hx) v hv.1 hv.2 ((intoS_iff hv.1).2 (.inl hu))
    | @thru b x v hx hl hm ih =>
      intro h0 h1
      have hb := (List.getElem?_eq_some_iff.1 hx).1
      have hv := lv_range hr hp hl
      exact (hc b hb).2 x (by simpa using hx) v hv.1 hv.2 ((intoS_iff hv.1).2 (.inr ⟨by simpa using ih h0 h1, hm⟩))
    | phi h' => intro _ _; exact h.phi _ _ h'
    | @edge b t v ht hl ih =>
      intro h0 h1
      have hv := lv_range hr hp hl
      have htr := tg_mem ht
      rw [bsOf_len] at htr
      have hcb := hc b.toNat (by omega)
      rw [Int.toNat_of_nonneg h0] at hcb
      exact hcb.1 t v ht hv.1 hv.2 (by simpa using ih htr.1 htr.2)
  intro b hb v hv0 hv1
  exact ⟨⟨h.inn _ _, fun hl => by simpa using key hl (by omega) (by omega)⟩, ⟨h.out _ _, fun hl => by simpa using key hl (by omega) (by omega)⟩⟩
theorem unmetA_upd {nb b : Nat} (hb : b < nb) {S : Int → Bool} : unmetA n nb (updS SI (b : Int) S) + unmet n (SI (b : Int)) = unmetA n nb SI + unmet n S := by
  unfold unmetA
  induction nb with
  | zero => omega
  | succ nb ih =>
    rw [List.range_succ, List.map_append, List.map_append, List.sum_append, List.sum_append]
    simp only [List.map_cons, List.map_nil, List.sum_cons, List.sum_nil, Nat.add_zero]
    by_cases e : b = nb
    · subst e
      rw [updS_at]
      have : (List.range b).map (fun k : Nat => unmet n (updS SI (b : Int) S (k : Int))) = (List.range b).map (fun k : Nat => unmet n (SI (k : Int))) := by
        apply List.map_congr_left
        intro k hk
        rw [List.mem_range] at hk
        rw [updS_ne (by omega)]
      rw [this]
      omega
    · have := ih (by omega)
      rw [updS_ne (show ((nb : Nat) : Int) ≠ (b : Int) by omega)]
      omega
theorem unmet_more {S T : Int → Bool} (h : ∀ i : Nat, i < n → S (i : Int) = true → T (i : Int) = true) (hn : ¬ ∀ i : Nat, i < n → T (i : Int) = S (i : Int)) : unmet n T < unmet n S := by
  unfold unmet
  have hx : ∃ i : Nat, i < n ∧ T (i : Int) = true ∧ S (i : Int) = false := by
    by_cases hq : ∃ i : Nat, i < n ∧ T (i : Int) = true ∧ S (i : Int) = false
    · exact hq
    · exfalso
      apply hn
      intro i hi
      cases hs : S (i : Int) with
      | true => exact h i hi hs
      | false =>
        cases ht : T (i : Int) with
        | false => rfl
        | true => exact absurd ⟨i, hi, ht, hs⟩ hq
  obtain ⟨i, hi, ht, hs⟩ := hx
  have e : (List.range n).filter (fun i : Nat => !T (i : Int)) = ((List.range n).filter (fun i : Nat => !S (i : Int))).filter (fun i : Nat => !T (i : Int)) := by
    rw [List.filter_filter]
    apply List.filter_congr
    intro q hq
    rw [List.mem_range] at hq
    cases h1 : S (q : Int) with
    | true => simp [h q hq h1]
    | false => simp
  rw [e]
  exact List.length_filter_lt_length_iff_exists.2 ⟨i, by simp [hi, hs], by simp [ht]⟩
end
end Go.Mor
namespace Go.Mor
noncomputable def innS (x : FBlk) (S : Int → Bool) : Int → Bool := fun v => decide (0 ≤ v) && intoS x S v
theorem innS_at {x : FBlk} {S : Int → Bool} {v : Int} : innS x S v = true → 0 ≤ v ∧ intoS x S v = true := by
  unfold innS
  rw [Bool.and_eq_true, decide_eq_true_eq]
  exact id
theorem innS_set {n : Nat} {ws : List Nat} {x : FBlk} {S : Int → Bool} (h : SetW n ws (intoS x S)) : SetW n ws (innS x S) := h.congr (fun i _ => by
  unfold innS
  rw [decide_eq_true (show (0 : Int) ≤ (i : Int) by omega), Bool.true_and])
theorem close_same {n : Nat} {fs : List FBlk} {SI SO : Int → Int → Bool} {b : Nat} {x : FBlk} {S : Int → Bool} (hx : fs[b]? = some x) (ht : ∀ t v, t ∈ tg (bsOf fs) (b : Int) → SI t v = true → S v = true)
    (he : ∀ i : Nat, i < n → intoS x S (i : Int) = SI (b : Int) (i : Int)) : CloseAt n fs SI (updS SO (b : Int) S) (b : Int) := by
  constructor
  · intro t v h1 _ _ h2
    rw [updS_at]
    exact ht t v h1 h2
  · intro y hy v h0 h1 h2
    rw [updS_at] at h2
    rw [Int.toNat_natCast, hx] at hy
    injection hy with hy
    subst hy
    have := he v.toNat (by omega)
    rw [Int.toNat_of_nonneg h0] at this
    rw [← this]
    exact h2
theorem close_keep {n : Nat} {fs : List FBlk} {SI SO : Int → Int → Bool} {b k : Int} {S : Int → Bool} (h : CloseAt n fs SI SO b) (hne : b ≠ k) : CloseAt n fs SI (updS SO k S) b := by
  unfold CloseAt at h ⊢
  rw [updS_ne hne]
  exact h
theorem order_all {bs : List SB} (hl : (orderL bs).length = bs.length) {b : Nat} (hb : b < bs.length) : ∃ q : Nat, q < (orderL bs).length ∧ (orderL bs)[q]? = some (b : Int) := by
  have h0 : 0 < bs.length := by omega
  have hm := (ord_pl h0).2 (all_place hl (b := (b : Int)) (by omega) (by omega))
  obtain ⟨q, hq⟩ := List.mem_iff_getElem?.1 hm
  exact ⟨q, (List.getElem?_eq_some_iff.1 hq).1, hq⟩
theorem order_ne {bs : List SB} (h0 : 0 < bs.length) {q r : Nat} {a b : Int} (hq : (orderL bs)[q]? = some a) (hr : (orderL bs)[r]? = some b) (hne : q ≠ r) : a ≠ b := by
  rintro rfl
  have hn := (order_ok h0).nodup
  have h1 := plc_at hn hq
  have h2 := plc_at hn hr
  omega
end Go.Mor
namespace Go.Mor
theorem slv_same {rows : List RowV} {t : Nat} {A : Option Addr} {n c : Nat} {xs : List Value} (h : rows[t]? = some ⟨A, n, c, xs⟩) (ys : List Value) : slv rows = slv (rows.set t ⟨A, n, c, ys⟩) := by
  rw [slv_set]
  apply List.ext_getElem?
  intro q
  by_cases e : t = q
  · subst e
    have := (List.getElem?_eq_some_iff.1 h).1
    rw [List.getElem?_set_self (by rw [slv_len]; exact this), slv_get h]
  · rw [List.getElem?_set_ne e]
end Go.Mor
namespace Go.Mor
open Go.RowKit
theorem updS_self {SS : Int → Int → Bool} {k : Int} : updS SS k (SS k) = SS := by
  funext b
  unfold updS
  split
  · rename_i h; rw [h]
  · rfl
theorem updS_twice {SS : Int → Int → Bool} {k : Int} {S T : Int → Bool} : updS (updS SS k S) k T = updS SS k T := by
  funext b
  unfold updS
  split <;> rfl
theorem tg_next {tl : List Int} {q : Nat} {t : Int} {SI : Int → Int → Bool} {Sk : Int → Bool} (h : ∀ (r : Nat) (t v : Int), r < q → tl[r]? = some t → SI t v = true → Sk v = true) (ht : tl[q]? = some t) :
    ∀ (r : Nat) (t' v : Int), r < q + 1 → tl[r]? = some t' → SI t' v = true → orS Sk (SI t) v = true := by
  intro r t' v hr h1 h2
  unfold orS
  by_cases e : r = q
  · subst e
    rw [ht] at h1
    injection h1 with h1
    subst h1
    rw [h2, Bool.or_true]
  · rw [h r t' v (by omega) h1 h2, Bool.true_or]
theorem defs_phi {fs : List FBlk} {k : Nat} {x : FBlk} {p : FPhi} (hx : fs[k]? = some x) (hp : p ∈ x.phis) : (p.dst, (k : Int), -1) ∈ defsF fs := by
  unfold defsF defsTo
  rw [List.take_length, List.mem_flatMap]
  exact ⟨(x, k), List.mem_zipIdx_iff_getElem?.2 hx, List.mem_append_left _ (List.mem_map.2 ⟨p, hp, rfl⟩)⟩
theorem defs_ins {fs : List FBlk} {k j : Nat} {x : FBlk} {p : FIns} (hx : fs[k]? = some x) (hp : x.insts[j]? = some p) (hm : makesQ p.op) : (p.dst, (k : Int), (j : Int)) ∈ defsF fs := by
  unfold defsF defsTo
  rw [List.take_length, List.mem_flatMap]
  exact ⟨(x, k), List.mem_zipIdx_iff_getElem?.2 hx, List.mem_append_right _ (List.mem_map.2 ⟨(p, j), List.mem_filter.2 ⟨List.mem_zipIdx_iff_getElem?.2 hp, by simpa using hm⟩, rfl⟩)⟩
section
variable {nm : ByteArray} {pa va : Int} {fs : List FBlk} {n : Nat}
theorem good_vr (h : GoodQ nm pa va fs) (hva : va = (n : Int)) : ∀ x, x ∈ fs → VR n x := by
  intro x hx
  obtain ⟨k, hk⟩ := List.mem_iff_getElem?.1 hx
  have hkl := (List.getElem?_eq_some_iff.1 hk).1
  obtain ⟨y, hy, hr⟩ := h.reads k hkl
  rw [hk] at hy
  injection hy with hy
  subst hy
  have hp0 := h.par
  refine ⟨fun p hp => ?_, fun p hp => ?_, fun hf => ?_⟩
  · have := h.vals.2.1 _ (defs_phi hk hp)
    simp only at this
    omega
  · obtain ⟨j, hj⟩ := List.mem_iff_getElem?.1 hp
    have ha : ∀ a, a ∈ p.args → 0 ≤ a ∧ a < (n : Int) := by
      intro a ha
      obtain ⟨i, hi⟩ := List.mem_iff_getElem?.1 ha
      have := hr.insts j p hj i a hi
      exact ⟨this.1, by rw [← hva]; exact this.2.1⟩
    by_cases hm : makesQ p.op
    · have := h.vals.2.1 _ (defs_ins hk hj hm)
      simp only at this
      exact ⟨by omega, by omega, ha⟩
    · rcases (h.vals.1 x hx p hp).1 with h1 | h1
      · exact absurd h1 hm
      · exact ⟨by omega, by omega, ha⟩
  · have := hr.fin (by unfold finS at hf; unfold finR; omega)
    exact ⟨this.1, by rw [← hva]; exact this.2.1⟩
theorem good_phi (h : GoodQ nm pa va fs) (hva : va = (n : Int)) : ∀ b v, PhiOut fs b v → 0 ≤ v ∧ v < (n : Int) := by
  rintro b v ⟨t, x, j, p, i, hx, hp, hs, ha⟩
  obtain ⟨y, hy, hr⟩ := h.reads t (List.getElem?_eq_some_iff.1 hx).1
  rw [hx] at hy
  injection hy with hy
  subst hy
  have := (hr.phis j p hp).2 i v b ha hs
  exact ⟨this.1, by rw [← hva]; exact this.2.1⟩
theorem close_all {SI SO : Int → Int → Bool} (h : GoodQ nm pa va fs) (hva : va = (n : Int)) (hl : LOk n fs SI SO) (hc : ∀ (q : Nat) (b : Int), q < (orderL (bsOf fs)).length → (orderL (bsOf fs))[q]? = some b → CloseAt n fs SI SO b) : LiveS n fs SI SO := by
  refine live_done (good_vr h hva) (good_phi h hva) hl (fun b hb => ?_)
  obtain ⟨q, hq, hqb⟩ := order_all (bs := bsOf fs) (by rw [bsOf_len]; exact h.all) (b := b) (by rw [bsOf_len]; exact hb)
  exact hc q b hq hqb
end
theorem turn_same {n j0 b : Nat} {fs : List FBlk} {x : FBlk} {tb : Bool} {SI SO : Int → Int → Bool} {Sk : Int → Bool} (h0 : 0 < fs.length) (hx : fs[b]? = some x) (hbo : (orderL (bsOf fs))[j0]? = some (b : Int))
    (hc : tb = false → ∀ (q : Nat) (b : Int), j0 + 1 ≤ q → q < (orderL (bsOf fs)).length → (orderL (bsOf fs))[q]? = some b → CloseAt n fs SI SO b)
    (ht : ∀ (r : Nat) (t v : Int), r < (tg (bsOf fs) (b : Int)).length → (tg (bsOf fs) (b : Int))[r]? = some t → SI t v = true → Sk v = true)
    (he : ∀ i : Nat, i < n → intoS x Sk (i : Int) = SI (b : Int) (i : Int)) :
    tb = false → ∀ (q : Nat) (b' : Int), j0 ≤ q → q < (orderL (bsOf fs)).length → (orderL (bsOf fs))[q]? = some b' → CloseAt n fs SI (updS SO (b : Int) Sk) b' := by
  intro htb q b' h1 h2 h3
  by_cases e : q = j0
  · subst e
    rw [hbo] at h3
    injection h3 with h3
    subst h3
    refine close_same hx (fun t v h4 h5 => ?_) he
    obtain ⟨r, hr⟩ := List.mem_iff_getElem?.1 h4
    exact ht r t v (List.getElem?_eq_some_iff.1 hr).1 hr h5
  · exact close_keep (hc htb q b' (by omega) h2 h3) (order_ne (by rw [bsOf_len]; exact h0) h3 hbo e)
theorem turn_less {n b : Nat} {fs : List FBlk} {x : FBlk} {SI SO : Int → Int → Bool} {Sk : Int → Bool} (hx : fs[b]? = some x) (hl : LOk n fs SI (updS SO (b : Int) Sk)) (hne : ¬ ∀ i : Nat, i < n → innS x Sk (i : Int) = SI (b : Int) (i : Int)) :
    unmetA n fs.length (updS SI (b : Int) (innS x Sk)) < unmetA n fs.length SI := by
  have h1 := unmetA_upd (n := n) (SI := SI) (List.getElem?_eq_some_iff.1 hx).1 (S := innS x Sk)
  have h2 := unmet_more (n := n) (S := SI (b : Int)) (T := innS x Sk) (fun i _ hs => by
    have := hl.less b x hx (i : Int) (by omega) hs
    rw [updS_at] at this
    unfold innS
    rw [this, decide_eq_true (show (0 : Int) ≤ (i : Int) by omega)]
    rfl) hne
  omega
end Go.Mor
namespace Go.Mor
open Go.RowKit
def liveL (n nb : Nat) (SS : Int → Int → Bool) : List (List Int) := (List.range nb).map (fun k : Nat => listS n (SS (k : Int)))
def liveTo (n nb : Nat) (SS : Int → Int → Bool) (k : Nat) : List (List Int) := (List.range nb).map (fun q : Nat => if q < k then listS n (SS (q : Int)) else [])
section
variable {n nb k : Nat} {SS TT : Int → Int → Bool}
theorem liveL_len : (liveL n nb SS).length = nb := by simp [liveL]
theorem liveTo_len : (liveTo n nb SS k).length = nb := by simp [liveTo]
theorem liveTo_start : liveTo n nb SS 0 = List.replicate nb [] := by
  apply List.ext_getElem?
  intro q
  unfold liveTo
  by_cases h : q < nb <;> simp [h]
theorem liveTo_next (hk : k < nb) : liveTo n nb SS (k + 1) = (liveTo n nb SS k).set k (listS n (SS (k : Int))) := by
  apply List.ext_getElem?
  intro q
  by_cases e : k = q
  · subst e
    rw [List.getElem?_set_self (by rw [liveTo_len]; exact hk)]
    unfold liveTo
    simp [hk]
  · rw [List.getElem?_set_ne e]
    unfold liveTo
    by_cases h : q < nb
    · have : (q < k + 1) ↔ q < k := by omega
      simp [h, this]
    · simp [h]
theorem liveTo_end (hk : nb ≤ k) : liveTo n nb SS k = liveL n nb SS := by
  unfold liveTo liveL
  apply List.map_congr_left
  intro q hq
  rw [List.mem_range] at hq
  rw [if_pos (by omega)]
theorem liveTo_nil (hk : k < nb) : (liveTo n nb SS k)[k]? = some [] := by
  unfold liveTo
  simp [hk]
theorem listS_congr {S T : Int → Bool} (h : ∀ i : Nat, i < n → S (i : Int) = T (i : Int)) : listS n S = listS n T := by
  unfold listS
  refine congrArg _ (List.filter_congr (fun i hi => ?_))
  rw [List.mem_range] at hi
  rw [h i hi]
theorem liveL_congr (h : ∀ b : Nat, b < nb → ∀ i : Nat, i < n → SS (b : Int) (i : Int) = TT (b : Int) (i : Int)) : liveL n nb SS = liveL n nb TT := by
  unfold liveL
  apply List.map_congr_left
  intro b hb
  rw [List.mem_range] at hb
  exact listS_congr (h b hb)
end
noncomputable def liveB (q : Bool) (n : Nat) (fs : List FBlk) : List (List Int) := liveL n fs.length (fun b v => @decide (LV fs q b v) (Classical.propDecidable _))
theorem live_in {n : Nat} {fs : List FBlk} {SI SO : Int → Int → Bool} (h : LiveS n fs SI SO) : liveL n fs.length SI = liveB true n fs := liveL_congr (fun b hb i hi => by
  rw [Bool.eq_iff_iff]; simp only [decide_eq_true_eq]
  exact (h b hb (i : Int) (by omega) (by omega)).1)
theorem live_out {n : Nat} {fs : List FBlk} {SI SO : Int → Int → Bool} (h : LiveS n fs SI SO) : liveL n fs.length SO = liveB false n fs := liveL_congr (fun b hb i hi => by
  rw [Bool.eq_iff_iff]; simp only [decide_eq_true_eq]
  exact (h b hb (i : Int) (by omega) (by omega)).2)
theorem liveB_len {q : Bool} {n : Nat} {fs : List FBlk} : (liveB q n fs).length = fs.length := liveL_len
noncomputable def ioL (q : Bool) (nm : ByteArray) (pa va : Int) (fs : List FBlk) : List (List Int) := if validN nm pa va fs = 0 then liveB q va.toNat fs else []
theorem ioL_no {q : Bool} {nm : ByteArray} {pa va : Int} {fs : List FBlk} (h : validN nm pa va fs ≠ 0) : ioL q nm pa va fs = [] := by rw [ioL, if_neg h]
theorem ioL_yes {q : Bool} {nm : ByteArray} {pa va : Int} {fs : List FBlk} (h : validN nm pa va fs = 0) : ioL q nm pa va fs = liveB q va.toNat fs := by rw [ioL, if_pos h]
theorem valid_good {nm : ByteArray} {pa va : Int} {fs : List FBlk} (h : validN nm pa va fs = 0) : GoodQ nm pa va fs ∧ va ≤ 20000 ∧ (sizeF fs : Int) ≤ 20000 := by
  unfold validN at h
  split at h
  · omega
  · split at h
    · rename_i h1 h2; exact ⟨h2, by omega, by omega⟩
    · omega
end Go.Mor
namespace Go.Mor
open Go.RowKit
def MkP (x : FBlk) (k : Nat) (M : Int → Bool) : Prop := ∀ i : Nat, M (i : Int) = true ↔ ∃ p, p ∈ x.phis.take k ∧ p.dst = (i : Int)
def MkI (x : FBlk) (k : Nat) (M : Int → Bool) : Prop := ∀ i : Nat, M (i : Int) = true ↔ (∃ p, p ∈ x.phis ∧ p.dst = (i : Int)) ∨ ∃ p, p ∈ x.insts.take k ∧ p.dst = (i : Int)
def UsI (x : FBlk) (k : Nat) (U : Int → Bool) : Prop := ∀ i : Nat, U (i : Int) = true ↔ (∀ p, p ∈ x.phis → p.dst ≠ (i : Int)) ∧ readL (x.insts.take k) (i : Int)
def UsJ (x : FBlk) (k : Nat) (as : List Int) (q : Nat) (U : Int → Bool) : Prop := ∀ i : Nat, U (i : Int) = true ↔ (∀ p, p ∈ x.phis → p.dst ≠ (i : Int)) ∧ (readL (x.insts.take k) (i : Int) ∨ (noneL (x.insts.take k) (i : Int) ∧ (i : Int) ∈ as.take q))
theorem readL_snoc {l : List FIns} {p : FIns} {v : Int} : readL (l ++ [p]) v ↔ readL l v ∨ (noneL l v ∧ v ∈ p.args) := by
  induction l with
  | nil =>
    show (v ∈ p.args ∨ (p.dst ≠ v ∧ False)) ↔ _
    simp [readL, noneL]
  | cons a l ih =>
    show (v ∈ a.args ∨ (a.dst ≠ v ∧ readL (l ++ [p]) v)) ↔ (v ∈ a.args ∨ (a.dst ≠ v ∧ readL l v)) ∨ _
    rw [ih]
    unfold noneL
    simp only [List.mem_cons, forall_eq_or_imp]
    constructor
    · rintro (h | ⟨h1, h2 | ⟨h2, h3⟩⟩)
      · exact .inl (.inl h)
      · exact .inl (.inr ⟨h1, h2⟩)
      · exact .inr ⟨⟨h1, h2⟩, h3⟩
    · rintro ((h | ⟨h1, h2⟩) | ⟨⟨h1, h2⟩, h3⟩)
      · exact .inl h
      · exact .inr ⟨h1, .inl h2⟩
      · exact .inr ⟨h1, .inr ⟨h2, h3⟩⟩
theorem takeS_snoc {α : Type} {l : List α} {k : Nat} {a : α} (h : l[k]? = some a) : l.take (k + 1) = l.take k ++ [a] := by
  obtain ⟨hk, he⟩ := List.getElem?_eq_some_iff.1 h
  rw [List.take_succ_eq_append_getElem hk, he]
theorem addS_iff {S : Int → Bool} {a v : Int} : addS S a v = true ↔ v = a ∨ S v = true := by simp [addS]
section
variable {x : FBlk} {k q : Nat} {M U : Int → Bool}
theorem MkP.start : MkP x 0 (fun _ => false) := fun i => by simp
theorem MkP.next (h : MkP x k M) {p : FPhi} (hp : x.phis[k]? = some p) {d : Int} (hd : p.dst = d) : MkP x (k + 1) (addS M d) := by
  subst hd
  intro i
  rw [addS_iff, h i, takeS_snoc hp]
  simp only [List.mem_append, List.mem_singleton]
  constructor
  · rintro (e | ⟨r, hr, e⟩)
    · exact ⟨p, .inr rfl, e.symm⟩
    · exact ⟨r, .inl hr, e⟩
  · rintro ⟨r, hr | rfl, e⟩
    · exact .inr ⟨r, hr, e⟩
    · exact .inl e.symm
theorem MkP.all (h : MkP x k M) (hk : x.phis.length ≤ k) : MkI x 0 M := by
  intro i
  rw [h i, List.take_of_length_le hk]
  simp
theorem MkI.next (h : MkI x k M) {p : FIns} (hp : x.insts[k]? = some p) {d : Int} (hd : p.dst = d) : MkI x (k + 1) (addS M d) := by
  subst hd
  intro i
  rw [addS_iff, h i, takeS_snoc hp]
  simp only [List.mem_append, List.mem_singleton]
  constructor
  · rintro (e | e | ⟨r, hr, e⟩)
    · exact .inr ⟨p, .inr rfl, e.symm⟩
    · exact .inl e
    · exact .inr ⟨r, .inl hr, e⟩
  · rintro (e | ⟨r, hr | rfl, e⟩)
    · exact .inr (.inl e)
    · exact .inr (.inr ⟨r, hr, e⟩)
    · exact .inl e.symm
theorem MkI.skip (h : MkI x k M) {p : FIns} (hp : x.insts[k]? = some p) (hd : ¬ 0 ≤ p.dst) : MkI x (k + 1) M := by
  intro i
  rw [h i, takeS_snoc hp]
  simp only [List.mem_append, List.mem_singleton]
  constructor
  · rintro (e | ⟨r, hr, e⟩)
    · exact .inl e
    · exact .inr ⟨r, .inl hr, e⟩
  · rintro (e | ⟨r, hr | rfl, e⟩)
    · exact .inl e
    · exact .inr ⟨r, hr, e⟩
    · omega
theorem UsI.start : UsI x 0 (fun _ => false) := fun i => by simp [readL]
theorem UsI.args (h : UsI x k U) (as : List Int) : UsJ x k as 0 U := fun i => by rw [h i]; simp
theorem UsJ.made {as : List Int} (h : UsJ x k as q U) (hm : MkI x k M) {a : Nat} (ha : as[q]? = some (a : Int)) (hM : M (a : Int) = true) : UsJ x k as (q + 1) U := by
  intro i
  rw [h i, takeS_snoc ha]
  simp only [List.mem_append, List.mem_singleton]
  constructor
  · rintro ⟨h1, h2 | ⟨h2, h3⟩⟩
    · exact ⟨h1, .inl h2⟩
    · exact ⟨h1, .inr ⟨h2, .inl h3⟩⟩
  · rintro ⟨h1, h2 | ⟨h2, h3 | h3⟩⟩
    · exact ⟨h1, .inl h2⟩
    · exact ⟨h1, .inr ⟨h2, h3⟩⟩
    · exfalso
      rw [← h3] at hM
      rcases (hm i).1 hM with ⟨p, hp, e⟩ | ⟨p, hp, e⟩
      · exact h1 p hp e
      · exact h2 p hp e
theorem UsJ.read {as : List Int} (h : UsJ x k as q U) (hm : MkI x k M) {a : Nat} (ha : as[q]? = some (a : Int)) (hM : M (a : Int) = false) : UsJ x k as (q + 1) (addS U (a : Int)) := by
  intro i
  rw [addS_iff, h i, takeS_snoc ha]
  simp only [List.mem_append, List.mem_singleton]
  constructor
  · rintro (e | ⟨h1, h2 | ⟨h2, h3⟩⟩)
    · have hM' : ¬ M (i : Int) = true := by rw [e, hM]; simp
      rw [hm i] at hM'
      exact ⟨fun p hp e => hM' (.inl ⟨p, hp, e⟩), .inr ⟨fun p hp e => hM' (.inr ⟨p, hp, e⟩), .inr e⟩⟩
    · exact ⟨h1, .inl h2⟩
    · exact ⟨h1, .inr ⟨h2, .inl h3⟩⟩
  · rintro ⟨h1, h2 | ⟨h2, h3 | h3⟩⟩
    · exact .inr ⟨h1, .inl h2⟩
    · exact .inr ⟨h1, .inr ⟨h2, h3⟩⟩
    · exact .inl h3
theorem UsJ.all {p : FIns} (h : UsJ x k p.args q U) (hp : x.insts[k]? = some p) (hq : p.args.length ≤ q) : UsI x (k + 1) U := by
  intro i
  rw [h i, takeS_snoc hp, readL_snoc, List.take_of_length_le hq]
end
noncomputable def madeF (fs : List FBlk) (b v : Int) : Bool := @decide (0 ≤ b ∧ ∃ x, fs[b.toNat]? = some x ∧ MadeQ x v) (Classical.propDecidable _)
noncomputable def useF (fs : List FBlk) (b v : Int) : Bool := @decide (0 ≤ b ∧ ∃ x, fs[b.toNat]? = some x ∧ UseQ x v) (Classical.propDecidable _)
section
variable {fs : List FBlk} {b k : Nat} {x : FBlk} {M U : Int → Bool} {n : Nat} {l : List Bool}
theorem madeF_iff (hx : fs[b]? = some x) {v : Int} : madeF fs (b : Int) v = true ↔ MadeQ x v := by
  unfold madeF
  simp only [decide_eq_true_eq, Int.toNat_natCast, hx]
  constructor
  · rintro ⟨_, y, hy, h⟩; injection hy with hy; exact hy ▸ h
  · exact fun h => ⟨by omega, x, rfl, h⟩
theorem useF_iff (hx : fs[b]? = some x) {v : Int} : useF fs (b : Int) v = true ↔ UseQ x v := by
  unfold useF
  simp only [decide_eq_true_eq, Int.toNat_natCast, hx]
  constructor
  · rintro ⟨_, y, hy, h⟩; injection hy with hy; exact hy ▸ h
  · exact fun h => ⟨by omega, x, rfl, h⟩
theorem MkI.made (h : MkI x k M) (hx : fs[b]? = some x) (hk : x.insts.length ≤ k) (hl : BoolsOf n l M) : BoolsOf n l (madeF fs (b : Int)) := hl.congr (fun i _ => by
  rw [Bool.eq_iff_iff, h i, madeF_iff hx, List.take_of_length_le hk]
  rfl)
theorem UsI.use (h : UsI x k U) (hm : MkI x k M) (hx : fs[b]? = some x) (hk : x.insts.length ≤ k) (hf : finS x → ∃ a : Nat, x.v = (a : Int) ∧ M (a : Int) = true) (hl : BoolsOf n l U) : BoolsOf n l (useF fs (b : Int)) := hl.congr (fun i _ => by
  rw [Bool.eq_iff_iff, h i, useF_iff hx, List.take_of_length_le hk]
  unfold UseQ
  constructor
  · rintro ⟨h1, h2⟩; exact ⟨h1, .inl h2⟩
  · rintro ⟨h1, h2 | ⟨h2, h3, h4⟩⟩
    · exact ⟨h1, h2⟩
    · exfalso
      obtain ⟨a, ha, hM⟩ := hf h2
      rw [← ha, h3] at hM
      rcases (hm i).1 hM with ⟨p, hp, e⟩ | ⟨p, hp, e⟩
      · exact h1 p hp e
      · rw [List.take_of_length_le hk] at hp; exact h4 p hp e)
theorem UsI.use_end (h : UsI x k U) (hm : MkI x k M) (hx : fs[b]? = some x) (hk : x.insts.length ≤ k) (hf : finS x) {a : Nat} (ha : x.v = (a : Int)) (hM : M (a : Int) = false) (hl : BoolsOf n l (addS U (a : Int))) : BoolsOf n l (useF fs (b : Int)) := hl.congr (fun i _ => by
  rw [Bool.eq_iff_iff, addS_iff, h i, useF_iff hx, List.take_of_length_le hk]
  unfold UseQ
  constructor
  · rintro (e | ⟨h1, h2⟩)
    · have hM' : ¬ M (i : Int) = true := by rw [e, hM]; simp
      rw [hm i, List.take_of_length_le hk] at hM'
      exact ⟨fun p hp e => hM' (.inl ⟨p, hp, e⟩), .inr ⟨hf, by rw [ha, e], fun p hp e => hM' (.inr ⟨p, hp, e⟩)⟩⟩
    · exact ⟨h1, .inl h2⟩
  · rintro ⟨h1, h2 | ⟨h2, h3, h4⟩⟩
    · exact .inr ⟨h1, h2⟩
    · exact .inl (by rw [← h3, ha]))
end
structure BoolR (n nb : Nat) (rows : List RowV) (SS : Int → Int → Bool) : Prop where
  len : rows.length = nb
  at_ : ∀ k : Nat, k < nb → ∃ A c l, rows[k]? = some ⟨A, n, c, bools l⟩ ∧ BoolsOf n l (SS (k : Int))
section
variable {n nb k : Nat} {rows : List RowV} {SS : Int → Int → Bool}
theorem BoolR.nil : BoolR n 0 [] SS := ⟨rfl, fun _ h => absurd h (Nat.not_lt_zero _)⟩
theorem BoolR.push (h : BoolR n k rows SS) {A : Option Addr} {c : Nat} {l : List Bool} (hl : BoolsOf n l (SS (k : Int))) : BoolR n (k + 1) (rows ++ [⟨A, n, c, bools l⟩]) SS := by
  refine ⟨by rw [List.length_append, h.len]; rfl, fun q hq => ?_⟩
  by_cases e : q = k
  · subst e
    exact ⟨A, c, l, by rw [List.getElem?_append_right (by rw [h.len]; exact Nat.le_refl _), h.len, Nat.sub_self]; rfl, hl⟩
  · obtain ⟨A', c', l', h1, h2⟩ := h.at_ q (by omega)
    exact ⟨A', c', l', by rw [List.getElem?_append_left (by rw [h.len]; omega)]; exact h1, h2⟩
theorem BoolR.set (h : BoolR n nb rows SS) {A : Option Addr} {c : Nat} {l : List Bool} {S : Int → Bool} (hS : BoolsOf n l S) : BoolR n nb (rows.set k ⟨A, n, c, bools l⟩) (updS SS (k : Int) S) := by
  refine ⟨by rw [List.length_set, h.len], fun q hq => ?_⟩
  by_cases e : k = q
  · subst e
    exact ⟨A, c, l, List.getElem?_set_self (by rw [h.len]; exact hq), by rw [updS_at]; exact hS⟩
  · obtain ⟨A', c', l', h1, h2⟩ := h.at_ q hq
    exact ⟨A', c', l', by rw [List.getElem?_set_ne e]; exact h1, by rw [updS_ne (by omega)]; exact h2⟩
end
structure GOk (n : Nat) (fs : List FBlk) (SI SO : Int → Int → Bool) : Prop where
  ok : LOk n fs SI SO
  use : ∀ (b : Nat) (x : FBlk) (v : Int), fs[b]? = some x → UseQ x v → SI (b : Int) v = true
def GAt (fs : List FBlk) (SI SO : Int → Int → Bool) (b : Nat) (v : Int) : Prop := (∀ t, t ∈ tg (bsOf fs) (b : Int) → SI t v = true → SO (b : Int) v = true) ∧ (SO (b : Int) v = true → madeF fs (b : Int) v = false → SI (b : Int) v = true)
section
variable {n : Nat} {fs : List FBlk} {SI SO : Int → Int → Bool} {b : Nat} {x : FBlk} {v : Int}
theorem GOk.start {m j i : Nat} (h : PhiDone fs m j i SO) (hm : fs.length ≤ m) : GOk n fs (useF fs) SO := by
  have hu : ∀ b v, useF fs b v = true → ∃ (k : Nat) (x : FBlk), b = (k : Int) ∧ fs[k]? = some x ∧ UseQ x v := by
    intro b v hb
    unfold useF at hb
    simp only [decide_eq_true_eq] at hb
    obtain ⟨h0, x, hx, hq⟩ := hb
    exact ⟨b.toNat, x, by omega, hx, hq⟩
  refine ⟨⟨fun b v h' => ?_, fun b v h' => .phi (h.sound b v h'), h.all hm, fun b x hx v hv h' => ?_⟩, fun b x v hx hq => (useF_iff hx).2 hq⟩
  · obtain ⟨k, x, rfl, hx, hq⟩ := hu b v h'
    exact .use hx hq
  · exact (intoS_iff hv).2 (.inl ((useF_iff hx).1 h'))
theorem GOk.out (h : GOk n fs SI SO) {t : Int} (ht : t ∈ tg (bsOf fs) (b : Int)) (hi : SI t v = true) : GOk n fs SI (updS SO (b : Int) (addS (SO (b : Int)) v)) := by
  have keep : ∀ b' v', SO b' v' = true → updS SO (b : Int) (addS (SO (b : Int)) v) b' v' = true := by
    intro b' v' h'
    by_cases e : b' = (b : Int)
    · subst e; rw [updS_at, addS_iff]; exact .inr h'
    · rw [updS_ne e]; exact h'
  refine ⟨⟨h.ok.inn, fun b' v' h' => ?_, fun b' v' h' => keep _ _ (h.ok.phi b' v' h'), fun b' x hx v hv hs => intoS_mono hv (keep _ v) (h.ok.less b' x hx v hv hs)⟩, h.use⟩
  by_cases e : b' = (b : Int)
  · subst e
    rw [updS_at, addS_iff] at h'
    rcases h' with rfl | h'
    · exact .edge ht (h.ok.inn _ _ hi)
    · exact h.ok.out _ _ h'
  · rw [updS_ne e] at h'; exact h.ok.out _ _ h'
theorem GOk.inn (h : GOk n fs SI SO) (hx : fs[b]? = some x) (ho : SO (b : Int) v = true) (hm : madeF fs (b : Int) v = false) : GOk n fs (updS SI (b : Int) (addS (SI (b : Int)) v)) SO := by
  have hmq : ¬ MadeQ x v := fun hq => by rw [(madeF_iff hx).2 hq] at hm; cases hm
  refine ⟨⟨fun b' v' h' => ?_, h.ok.out, h.ok.phi, fun b' y hy v' hv hs => ?_⟩, fun b' y v' hy hq => ?_⟩
  · by_cases e : b' = (b : Int)
    · subst e
      rw [updS_at, addS_iff] at h'
      rcases h' with rfl | h'
      · exact .thru hx (h.ok.out _ _ ho) hmq
      · exact h.ok.inn _ _ h'
    · rw [updS_ne e] at h'; exact h.ok.inn _ _ h'
  · by_cases e : (b' : Int) = (b : Int)
    · have : b' = b := by omega
      subst this
      rw [hx] at hy; injection hy with hy; subst hy
      rw [updS_at, addS_iff] at hs
      rcases hs with rfl | hs
      · exact (intoS_iff hv).2 (.inr ⟨ho, hmq⟩)
      · exact h.ok.less _ _ hx _ hv hs
    · rw [updS_ne e] at hs; exact h.ok.less b' y hy v' hv hs
  · by_cases e : (b' : Int) = (b : Int)
    · rw [e, updS_at, addS_iff]
      have := h.use b' y v' hy hq
      rw [e] at this
      exact .inr this
    · rw [updS_ne e]; exact h.use b' y v' hy hq
theorem unmet_addS {S : Int → Bool} {i : Nat} (hi : i < n) (hs : S (i : Int) = false) : unmet n (addS S (i : Int)) < unmet n S := by
  refine unmet_more (fun j _ h => addS_iff.2 (.inr h)) (fun h => ?_)
  have := h i hi
  rw [hs] at this
  rw [addS_iff.2 (.inl rfl)] at this
  cases this
theorem unmetA_add {nb i : Nat} (hb : b < nb) (hi : i < n) (hs : SI (b : Int) (i : Int) = false) : unmetA n nb (updS SI (b : Int) (addS (SI (b : Int)) (i : Int))) < unmetA n nb SI := by
  have h1 := unmetA_upd (n := n) (SI := SI) hb (S := addS (SI (b : Int)) (i : Int))
  have h2 := unmet_addS (n := n) hi hs
  omega
theorem grow_done {nm : ByteArray} {pa va : Int} (hg : GoodQ nm pa va fs) (hva : va = (n : Int)) (h : GOk n fs SI SO) (hc : ∀ b : Nat, b < fs.length → ∀ v : Nat, v < n → GAt fs SI SO b (v : Int)) : LiveS n fs SI SO := by
  refine live_done (good_vr hg hva) (good_phi hg hva) h.ok (fun b hb => ⟨fun t v ht h0 h1 hs => ?_, fun x hx v h0 h1 hs => ?_⟩)
  · have := (hc b hb v.toNat (by omega)).1 t ht
    rw [Int.toNat_of_nonneg h0] at this
    exact this hs
  · rw [Int.toNat_natCast] at hx
    rcases (intoS_iff h0).1 hs with hu | ⟨ho, hm⟩
    · exact h.use b x v hx hu
    · have := (hc b hb v.toNat (by omega)).2
      rw [Int.toNat_of_nonneg h0] at this
      refine this ho ?_
      cases hq : madeF fs (b : Int) v with
      | false => rfl
      | true => exact absurd ((madeF_iff hx).1 hq) hm
end
structure GTo (n : Nat) (fs : List FBlk) (SI SO SI' SO' : Int → Int → Bool) (b m : Nat) (mb : Bool) : Prop where
  ok : GOk n fs SI' SO'
  no : mb = false → SI' = SI ∧ SO' = SO ∧ ∀ v : Nat, v < m → GAt fs SI SO b (v : Int)
  le : unmetA n fs.length SI' + unmetA n fs.length SO' ≤ unmetA n fs.length SI + unmetA n fs.length SO
  yes : mb = true → unmetA n fs.length SI' + unmetA n fs.length SO' < unmetA n fs.length SI + unmetA n fs.length SO
structure GMid (n : Nat) (fs : List FBlk) (SI SO SI' SO' : Int → Int → Bool) (b m q : Nat) (mb : Bool) : Prop extends GTo n fs SI SO SI' SO' b m mb where
  tgs : ∀ (r : Nat) (t : Int), r < q → (tg (bsOf fs) (b : Int))[r]? = some t → SI' t (m : Int) = true → SO' (b : Int) (m : Int) = true
section
variable {n : Nat} {fs : List FBlk} {SI SO SI' SO' : Int → Int → Bool} {b m q : Nat} {mb : Bool}
theorem GTo.start (h : GOk n fs SI SO) : GTo n fs SI SO SI SO b 0 false := ⟨h, fun _ => ⟨rfl, rfl, fun _ h => absurd h (Nat.not_lt_zero _)⟩, Nat.le_refl _, fun h => Bool.noConfusion h⟩
theorem GTo.mid (h : GTo n fs SI SO SI' SO' b m mb) : GMid n fs SI SO SI' SO' b m 0 mb := ⟨h, fun _ _ h => absurd h (Nat.not_lt_zero _)⟩
theorem GMid.skip (h : GMid n fs SI SO SI' SO' b m q mb) {t : Int} (ht : (tg (bsOf fs) (b : Int))[q]? = some t) (hs : SI' t (m : Int) = true → SO' (b : Int) (m : Int) = true) : GMid n fs SI SO SI' SO' b m (q + 1) mb := by
  refine ⟨h.toGTo, fun r t' hr h1 h2 => ?_⟩
  by_cases e : r = q
  · subst e; rw [ht] at h1; injection h1 with h1; subst h1; exact hs h2
  · exact h.tgs r t' (by omega) h1 h2
theorem GMid.put (h : GMid n fs SI SO SI' SO' b m q mb) (hb : b < fs.length) (hm : m < n) {t : Int} (ht : (tg (bsOf fs) (b : Int))[q]? = some t) (hs : SI' t (m : Int) = true) (ho : SO' (b : Int) (m : Int) = false) :
    GMid n fs SI SO SI' (updS SO' (b : Int) (addS (SO' (b : Int)) (m : Int))) b m (q + 1) true := by
  have hu := unmetA_add (n := n) (SI := SO') hb hm ho
  have hl := h.le
  refine ⟨⟨h.ok.out (List.mem_of_getElem? ht) hs, fun h => Bool.noConfusion h, by omega, fun _ => by omega⟩, fun r t' _ _ _ => ?_⟩
  rw [updS_at, addS_iff]
  exact .inl rfl
theorem GMid.same (h : GMid n fs SI SO SI' SO' b m q mb) (hq : (tg (bsOf fs) (b : Int)).length ≤ q) (hc : SO' (b : Int) (m : Int) = true → madeF fs (b : Int) (m : Int) = false → SI' (b : Int) (m : Int) = true) : GTo n fs SI SO SI' SO' b (m + 1) mb := by
  refine ⟨h.ok, fun hmb => ?_, h.le, h.yes⟩
  obtain ⟨h1, h2, h3⟩ := h.no hmb
  refine ⟨h1, h2, fun v hv => ?_⟩
  by_cases e : v = m
  · subst e
    have ht := h.tgs
    rw [h1, h2] at ht hc
    refine ⟨fun t h4 h5 => ?_, hc⟩
    obtain ⟨r, hr⟩ := List.mem_iff_getElem?.1 h4
    exact ht r t (by have := (List.getElem?_eq_some_iff.1 hr).1; omega) hr h5
  · exact h3 v (by omega)
theorem GMid.putI (h : GMid n fs SI SO SI' SO' b m q mb) (hm : m < n) {x : FBlk} (hx : fs[b]? = some x) (ho : SO' (b : Int) (m : Int) = true) (hmd : madeF fs (b : Int) (m : Int) = false) (hi : SI' (b : Int) (m : Int) = false) :
    GTo n fs SI SO (updS SI' (b : Int) (addS (SI' (b : Int)) (m : Int))) SO' b (m + 1) true := by
  have hu := unmetA_add (n := n) (SI := SI') (List.getElem?_eq_some_iff.1 hx).1 hm hi
  have hl := h.le
  exact ⟨h.ok.inn hx ho hmd, fun h => Bool.noConfusion h, by omega, fun _ => by omega⟩
end
def listTo (l : List Bool) (k : Nat) : List Int := ((List.range k).filter (fun i : Nat => l.getD i false)).map (fun i : Nat => (i : Int))
theorem listTo_yes {l : List Bool} {k : Nat} (h : l.getD k false = true) : listTo l (k + 1) = listTo l k ++ [(k : Int)] := by
  unfold listTo
  rw [List.range_succ, List.filter_append, List.map_append]
  simp only [List.filter_cons, List.filter_nil, h, if_true, List.map_cons, List.map_nil]
theorem listTo_no {l : List Bool} {k : Nat} (h : l.getD k false = false) : listTo l (k + 1) = listTo l k := by
  unfold listTo
  rw [List.range_succ, List.filter_append, List.map_append]
  simp only [List.filter_cons, List.filter_nil, h, List.map_nil, List.append_nil, Bool.false_eq_true, if_false]
theorem listTo_len (l : List Bool) (k : Nat) : (listTo l k).length ≤ k := by
  unfold listTo
  rw [List.length_map]
  exact Nat.le_trans (List.length_filter_le _ _) (by simp)
theorem listTo_all {n : Nat} {l : List Bool} {S : Int → Bool} (h : BoolsOf n l S) : listTo l n = listS n S := by
  unfold listTo listS
  refine congrArg _ (List.filter_congr (fun i hi => ?_))
  rw [List.mem_range] at hi
  rw [h.2 i hi]
theorem liveL_get {n nb k : Nat} {SS : Int → Int → Bool} (hk : k < nb) : (liveL n nb SS)[k]? = some (listS n (SS (k : Int))) := by simp [liveL, hk]
section
variable {n : Nat} {fs : List FBlk} {SI1 SO1 SI2 SO2 SI3 SO3 : Int → Int → Bool} {j0 : Nat} {tb mb : Bool}
theorem grow_sum (hU : unmetA n fs.length SI2 + unmetA n fs.length SO2 ≤ unmetA n fs.length SI1 + unmetA n fs.length SO1 ∧ (tb = true → unmetA n fs.length SI2 + unmetA n fs.length SO2 < unmetA n fs.length SI1 + unmetA n fs.length SO1)) (h : GTo n fs SI2 SO2 SI3 SO3 j0 n mb) :
    unmetA n fs.length SI3 + unmetA n fs.length SO3 ≤ unmetA n fs.length SI1 + unmetA n fs.length SO1 ∧ ((mb || tb) = true → unmetA n fs.length SI3 + unmetA n fs.length SO3 < unmetA n fs.length SI1 + unmetA n fs.length SO1) := by
  have h1 := hU.1
  have h2 := h.le
  refine ⟨by omega, fun hb => ?_⟩
  cases mb with
  | true => have := h.yes rfl; omega
  | false => have := hU.2 (by simpa using hb); omega
theorem grow_all (hc : tb = false → ∀ b : Nat, j0 + 1 ≤ b → b < fs.length → ∀ v : Nat, v < n → GAt fs SI2 SO2 b (v : Int)) (h : GTo n fs SI2 SO2 SI3 SO3 j0 n mb) :
    (mb || tb) = false → ∀ b : Nat, j0 ≤ b → b < fs.length → ∀ v : Nat, v < n → GAt fs SI3 SO3 b (v : Int) := by
  intro hb b h1 h2 v hv
  rw [Bool.or_eq_false_iff] at hb
  obtain ⟨e1, e2, e3⟩ := h.no hb.1
  rw [e1, e2]
  by_cases e : b = j0
  · rw [e]; exact e3 v hv
  · exact hc hb.2 b (by omega) h2 v hv
end
end Go.Mor
namespace Go.Mor
open Go.RowKit
def cardS (n : Nat) (S : Int → Bool) : Nat := (listS n S).length
section
variable {n : Nat} {S T : Int → Bool}
theorem cardS_congr (h : ∀ i : Nat, i < n → S (i : Int) = T (i : Int)) : cardS n S = cardS n T := by rw [cardS, cardS, listS_congr h]
theorem cardS_succ (n : Nat) (S : Int → Bool) : cardS (n + 1) S = cardS n S + cond (S (n : Int)) 1 0 := by
  unfold cardS listS
  rw [List.range_succ, List.filter_append, List.map_append, List.length_append]
  cases h : S (n : Int) <;> simp [h]
theorem cardS_le : cardS n S ≤ n := by
  induction n with
  | zero => simp [cardS, listS]
  | succ n ih => rw [cardS_succ]; cases S (n : Int) <;> simp <;> omega
theorem addS_have {v : Int} (h : S v = true) : addS S v = S := by
  funext x
  unfold addS
  by_cases e : x = v
  · subst e; simp [h]
  · simp [e]
theorem remS_none {v : Int} (h : S v = false) : remS S v = S := by
  funext x
  unfold remS
  by_cases e : x = v
  · subst e; simp [h]
  · simp [e]
theorem cardS_put {i : Nat} (hi : i < n) (h : S (i : Int) = false) : cardS n (addS S (i : Int)) = cardS n S + 1 := by
  induction n with
  | zero => omega
  | succ n ih =>
    rw [cardS_succ, cardS_succ]
    by_cases e : i = n
    · subst e
      rw [h, addS_iff.2 (.inl rfl), cardS_congr (T := S) (fun j hj => ?_)]
      · rfl
      · unfold addS
        have : ¬ ((j : Int) = (i : Int)) := by omega
        simp [this]
    · rw [ih (by omega)]
      have : addS S (i : Int) (n : Int) = S (n : Int) := by
        unfold addS
        have : ¬ ((n : Int) = (i : Int)) := by omega
        simp [this]
      rw [this]
      omega
theorem cardS_take {i : Nat} (hi : i < n) (h : S (i : Int) = true) : cardS n (remS S (i : Int)) + 1 = cardS n S := by
  have e : addS (remS S (i : Int)) (i : Int) = S := by
    funext x
    unfold addS remS
    by_cases e : x = (i : Int)
    · subst e
      rw [h]
      simp
    · have : (x == (i : Int)) = false := by simpa using e
      rw [this]
      simp
  have := cardS_put (n := n) (S := remS S (i : Int)) hi (by simp [remS])
  rw [e] at this
  omega
end
def putD (S : Int → Bool) (d : Int) : Int → Bool := if 0 ≤ d then addS S d else S
theorem take_put (S : Int → Bool) (d : Int) : takeD (putD S d) d = takeD S d := by
  unfold takeD putD
  split
  · funext x
    unfold addS remS
    cases h : (x == d) with
    | true => simp
    | false => show (!false && ((x == d) || S x)) = _; rw [h, Bool.false_or]
  · rfl
def plL (n : Nat) : List FIns → (Int → Bool) → List (List Int)
  | [], _ => []
  | p :: l, E => listS n (putD (intoB l E) p.dst) :: plL n l E
theorem plL_drop {n j : Nat} {l : List FIns} {E : Int → Bool} {p : FIns} (h : l[j]? = some p) : plL n (l.drop j) E = listS n (putD (intoB (l.drop (j + 1)) E) p.dst) :: plL n (l.drop (j + 1)) E := by
  obtain ⟨hj, he⟩ := List.getElem?_eq_some_iff.1 h
  rw [List.drop_eq_getElem_cons hj, he]
  rfl
def mx (l : List Nat) : Nat := l.foldr max 0
theorem mx_cons (a : Nat) (l : List Nat) : mx (a :: l) = max a (mx l) := rfl
theorem mx_append (l m : List Nat) : mx (l ++ m) = max (mx l) (mx m) := by
  induction l with
  | nil => simp [mx]
  | cons a l ih => rw [List.cons_append, mx_cons, mx_cons, ih]; omega
def phS (l : List FPhi) (S : Int → Bool) : Int → Bool := l.foldl (fun S p => addS S p.dst) S
theorem phS_next {l : List FPhi} {j : Nat} {p : FPhi} (h : l[j]? = some p) (S : Int → Bool) : phS (l.take (j + 1)) S = addS (phS (l.take j) S) p.dst := by
  unfold phS
  rw [takeS_snoc h, List.foldl_append]
  rfl
theorem phS_iff {l : List FPhi} {S : Int → Bool} {v : Int} : phS l S v = true ↔ S v = true ∨ ∃ p, p ∈ l ∧ p.dst = v := by
  induction l generalizing S with
  | nil => simp [phS]
  | cons p l ih =>
    have e : phS (p :: l) S = phS l (addS S p.dst) := rfl
    rw [e, ih, addS_iff]
    simp only [List.mem_cons]
    constructor
    · rintro ((h | h) | ⟨q, hq, h⟩)
      · exact .inr ⟨p, .inl rfl, h.symm⟩
      · exact .inl h
      · exact .inr ⟨q, .inr hq, h⟩
    · rintro (h | ⟨q, rfl | hq, h⟩)
      · exact .inl (.inr h)
      · exact .inl (.inl h.symm)
      · exact .inr ⟨q, hq, h⟩
def loS (k : Nat) (S : Int → Bool) : Int → Bool := fun v => decide (0 ≤ v ∧ v < (k : Int)) || S v
theorem loS_zero (S : Int → Bool) : loS 0 S = S := by
  funext v
  unfold loS
  rw [decide_eq_false (by omega), Bool.false_or]
theorem loS_next (k : Nat) (S : Int → Bool) : loS (k + 1) S = addS (loS k S) (k : Int) := by
  funext v
  unfold loS addS
  rw [Bool.eq_iff_iff]
  simp only [Bool.or_eq_true, decide_eq_true_eq, beq_iff_eq]
  constructor
  · rintro (h | h)
    · by_cases e : v = (k : Int)
      · exact .inl e
      · exact .inr (.inl ⟨h.1, by omega⟩)
    · exact .inr (.inr h)
  · rintro (h | h | h)
    · exact .inl ⟨by omega, by omega⟩
    · exact .inl ⟨h.1, by omega⟩
    · exact .inr h
noncomputable def firstS (pa : Nat) (k : Nat) (x : FBlk) (S : Int → Bool) : Int → Bool := if k = 0 then loS pa (phS x.phis (intoB x.insts (endR x S))) else phS x.phis (intoB x.insts (endR x S))
noncomputable def blkC (n pa k : Nat) (x : FBlk) (S : Int → Bool) : List (List Int) := listS n (firstS pa k x S) :: plL n x.insts (endR x S)
noncomputable def besC (n pa : Nat) (fs : List FBlk) (SO : Int → Int → Bool) (k : Nat) : List (List Int) := match fs[k]? with | some x => blkC n pa k x (SO (k : Int)) | none => []
noncomputable def besTo (n pa : Nat) (fs : List FBlk) (SO : Int → Int → Bool) (k : Nat) : List (List Int) := (List.range k).flatMap (besC n pa fs SO)
def mxl (l : List (List Int)) : Nat := mx (l.map List.length)
theorem mxl_cons (a : List Int) (l : List (List Int)) : mxl (a :: l) = max a.length (mxl l) := rfl
theorem mxl_append (l m : List (List Int)) : mxl (l ++ m) = max (mxl l) (mxl m) := by rw [mxl, List.map_append, mx_append]; rfl
theorem mxl_nil : mxl [] = 0 := rfl
section
variable {n pa k : Nat} {fs : List FBlk} {SO TO : Int → Int → Bool} {x : FBlk}
theorem besTo_next (hx : fs[k]? = some x) : besTo n pa fs SO (k + 1) = besTo n pa fs SO k ++ blkC n pa k x (SO (k : Int)) := by
  unfold besTo
  rw [List.range_succ, List.flatMap_append]
  simp [besC, hx]
theorem intoB_at {l : List FIns} {S T : Int → Bool} {v : Int} (h : S v = T v) : intoB l S v = intoB l T v := by
  induction l with
  | nil => exact h
  | cons p l ih =>
    show insS p (intoB l S) v = insS p (intoB l T) v
    unfold insS addL takeD
    split
    · unfold remS; rw [ih]
    · rw [ih]
theorem endR_at {S T : Int → Bool} {v : Int} (h : S v = T v) : endR x S v = endR x T v := by unfold endR; rw [h]
theorem phS_at {l : List FPhi} {S T : Int → Bool} {v : Int} (h : S v = T v) : phS l S v = phS l T v := by
  rw [Bool.eq_iff_iff, phS_iff, phS_iff, h]
theorem firstS_at {S T : Int → Bool} {v : Int} (h : S v = T v) : firstS pa k x S v = firstS pa k x T v := by
  have e := phS_at (l := x.phis) (intoB_at (l := x.insts) (endR_at (x := x) h))
  unfold firstS
  split
  · unfold loS; rw [e]
  · exact e
theorem putD_at {S T : Int → Bool} {d v : Int} (h : S v = T v) : putD S d v = putD T d v := by
  unfold putD
  split
  · unfold addS; rw [h]
  · exact h
theorem plL_congr {l : List FIns} {S T : Int → Bool} (h : ∀ i : Nat, i < n → S (i : Int) = T (i : Int)) : plL n l S = plL n l T := by
  induction l with
  | nil => rfl
  | cons p l ih =>
    show listS n _ :: plL n l S = listS n _ :: plL n l T
    rw [ih, listS_congr (fun i hi => putD_at (intoB_at (h i hi)))]
theorem besTo_congr (h : ∀ b : Nat, b < fs.length → ∀ i : Nat, i < n → SO (b : Int) (i : Int) = TO (b : Int) (i : Int)) : besTo n pa fs SO k = besTo n pa fs TO k := by
  unfold besTo
  have e : besC n pa fs SO = besC n pa fs TO := by
    funext b
    unfold besC
    cases hx : fs[b]? with
    | none => rfl
    | some x =>
      have hb := (List.getElem?_eq_some_iff.1 hx).1
      show blkC n pa b x _ = blkC n pa b x _
      unfold blkC
      rw [listS_congr (fun i hi => firstS_at (h b hb i hi)), plL_congr (fun i hi => endR_at (h b hb i hi))]
  rw [e]
end
noncomputable def mostF (n pa : Nat) (fs : List FBlk) : Nat := mxl (besTo n pa fs (fun b v => @decide (LV fs false b v) (Classical.propDecidable _)) fs.length)
theorem most_live {n pa : Nat} {fs : List FBlk} {SI SO : Int → Int → Bool} (h : LiveS n fs SI SO) : mxl (besTo n pa fs SO fs.length) = mostF n pa fs := by
  unfold mostF
  rw [besTo_congr (fun b hb i hi => ?_)]
  rw [Bool.eq_iff_iff]
  simp only [decide_eq_true_eq]
  exact (h b hb (i : Int) (by omega) (by omega)).2
noncomputable def mostN (nm : ByteArray) (pa va : Int) (fs : List FBlk) : Nat := if validN nm pa va fs = 0 then mostF va.toNat pa.toNat fs else 0
end Go.Mor
namespace Go.Mor
open Go.RowKit
section
variable {bs : List SB} {up : Int → Int}
end
end Go.Mor
namespace Go.Mor
open Go.RowKit
theorem ll_next {l m : List (List Int)} {j : Nat} {x y : List Int} (h : l.take j = m.take j) (hx : l[j]? = some x) (hy : m[j]? = some y) (he : x = y) : l.take (j + 1) = m.take (j + 1) := by
  obtain ⟨h1, e1⟩ := List.getElem?_eq_some_iff.1 hx
  obtain ⟨h2, e2⟩ := List.getElem?_eq_some_iff.1 hy
  rw [List.take_succ_eq_append_getElem h1, List.take_succ_eq_append_getElem h2, h, e1, e2, he]
theorem ll_yes {l m : List (List Int)} {j : Nat} (h : l.take j = m.take j) (hl : l.length = m.length) (hj : l.length ≤ j) : decide (l = m) = true := by
  rw [List.take_of_length_le hj, List.take_of_length_le (by omega)] at h
  simpa using h
theorem ll_no {l m : List (List Int)} {j : Nat} {x y : List Int} (hx : l[j]? = some x) (hy : m[j]? = some y) (he : decide (x = y) = false) : decide (l = m) = false := by
  simp only [decide_eq_false_iff_not] at he ⊢
  rintro rfl
  rw [hx] at hy
  injection hy with hy
  exact he hy
theorem ll_len {l m : List (List Int)} (h : l.length ≠ m.length) : decide (l = m) = false := by
  simp only [decide_eq_false_iff_not]
  rintro rfl
  exact h rfl
end Go.Mor
namespace Go.Mor
open Go.RowKit
def greatQ (va : Int) (fs : List FBlk) : Prop := ((60 < fs.length ∨ 3000 < va) ∧ (va ≤ 20000 ∨ 60 < fs.length)) ∨ (¬ (60 < fs.length ∨ 3000 < va) ∧ 3000 < greatTo fs fs.length)
instance (va : Int) (fs : List FBlk) : Decidable (greatQ va fs) := by unfold greatQ; infer_instance
theorem greatQ_len {va : Int} {fs : List FBlk} (h : ¬ greatQ va fs) : fs.length ≤ 60 := by
  unfold greatQ at h
  omega
def great5Q (va : Int) (fs : List FBlk) : Prop := greatQ va fs ∨ 1500 < sizeF fs ∨ 800 < va
instance (va : Int) (fs : List FBlk) : Decidable (great5Q va fs) := by unfold great5Q; infer_instance
def exB (A7 A5 : Option Addr) : FBlk := ⟨none, 0, [], A7, 3, [⟨1, 0, 1, ⟨#[]⟩, none, 0, []⟩, ⟨1, 1, 2, ⟨#[]⟩, none, 0, []⟩, ⟨17, 2, 0, ⟨#[]⟩, A5, 2, [0, 1]⟩], 2, 2, 0, 0⟩
def exN : ByteArray := ⟨#[102]⟩
section
variable {A5 A7 A9 : Option Addr}
theorem row_rds {w : World} {e size n c : Nat} {A : Option Addr} {xs : List Value} {css : List (List Value)} (h : (Res.row e size A n c xs).holds w) (hx : ∀ i cs, css[i]? = some cs → cs ≠ [] ∧ ∀ j v, cs[j]? = some v → xs[i * size + j]? = some v) : (Res.rds A size css).holds w := by
  have hr := row_rd h
  intro i cs hi
  obtain ⟨hne, hg⟩ := hx i cs hi
  obtain ⟨v0, hv0⟩ : ∃ v, cs[0]? = some v := ⟨_, List.getElem?_eq_getElem (List.length_pos_iff.2 hne)⟩
  obtain ⟨a, ha, _⟩ := hr (i * size + 0) v0 (hg 0 v0 hv0)
  refine ⟨a, ha, fun j v hj => ?_⟩
  obtain ⟨a', ha', hc⟩ := hr (i * size + j) v (hg j v hj)
  rw [ha] at ha'
  injection ha' with ha'
  subst ha'
  rw [add_add]
  exact hc
theorem ex_ro {w : World} {e5 e7 e9 n5 n7 n9 c5 c7 c9 : Nat} (h5 : (Res.row e5 1 A5 n5 c5 (ints [0, 1])).holds w) (h7 : (Res.row e7 5 A7 n7 c7 ((exB A7 A5).insts.flatMap FIns.cells)).holds w) (h9 : (Res.row e9 6 A9 n9 c9 (exB A7 A5).sb.cells).holds w) : RO noS w (.fn A9 [exB A7 A5]) := by
  refine RO.of (fun r hr => ?_)
  have e : (Res.blocks A9 (bsOf [exB A7 A5]) :: [exB A7 A5].flatMap FBlk.parts) = [.blocks A9 (bsOf [exB A7 A5]), .rds none 2 [], .rds A7 5 ((exB A7 A5).insts.map FIns.cells), .rd none (ints []), .rd none (ints []), .rd A5 (ints [0, 1])] := rfl
  rw [e] at hr
  simp only [List.mem_cons, List.not_mem_nil, or_false] at hr
  rcases hr with rfl | rfl | rfl | rfl | rfl | rfl
  · refine row_rds h9 (fun i cs hi => ?_)
    match i, hi with
    | 0, hi =>
      have : (exB A7 A5).sb.cells = cs := by simpa [bsOf] using hi
      subst this
      exact ⟨by simp [exB, FBlk.sb, SB.cells], fun j v hj => by simpa using hj⟩
    | i + 1, hi => simp [bsOf] at hi
  · intro i cs hi; simp at hi
  · refine row_rds h7 (fun i cs hi => ?_)
    match i, hi with
    | 0, hi =>
      simp [exB] at hi
      subst hi
      exact ⟨by simp [FIns.cells], fun j v hj => by
        have : j < 5 := (List.getElem?_eq_some_iff.1 hj).1
        match j, hj with
        | 0, hj => exact hj
        | 1, hj => exact hj
        | 2, hj => exact hj
        | 3, hj => exact hj
        | 4, hj => exact hj
        | j + 5, hj => omega⟩
    | 1, hi =>
      simp [exB] at hi
      subst hi
      exact ⟨by simp [FIns.cells], fun j v hj => by
        have : j < 5 := (List.getElem?_eq_some_iff.1 hj).1
        match j, hj with
        | 0, hj => exact hj
        | 1, hj => exact hj
        | 2, hj => exact hj
        | 3, hj => exact hj
        | 4, hj => exact hj
        | j + 5, hj => omega⟩
    | 2, hi =>
      simp [exB] at hi
      subst hi
      exact ⟨by simp [FIns.cells], fun j v hj => by
        have : j < 5 := (List.getElem?_eq_some_iff.1 hj).1
        match j, hj with
        | 0, hj => exact hj
        | 1, hj => exact hj
        | 2, hj => exact hj
        | 3, hj => exact hj
        | 4, hj => exact hj
        | j + 5, hj => omega⟩
    | i + 3, hi => simp [exB] at hi
  · intro i v hi; simp [ints] at hi
  · intro i v hi; simp [ints] at hi
  · exact row_rd h5
theorem ex_ok : FOk [exB A7 A5] := by
  intro x hx
  rw [List.mem_singleton] at hx
  subst hx
  refine ⟨by simp [exB, LenOk], fun p hp => by simp [exB] at hp, by simp [exB, LenOk], fun p hp => ?_, by simp [exB, In64], by simp [exB, In64], by simp [exB, In64], by simp [exB, In64]⟩
  simp only [exB, List.mem_cons, List.not_mem_nil, or_false] at hp
  rcases hp with rfl | rfl | rfl
  · exact ⟨by simp [In64], by simp [In64], by simp [In64], by show (0 : Nat) ≤ _; omega, by simp [LenOk], fun x hx => by simp at hx⟩
  · exact ⟨by simp [In64], by simp [In64], by simp [In64], by show (0 : Nat) ≤ _; omega, by simp [LenOk], fun x hx => by simp at hx⟩
  · exact ⟨by simp [In64], by simp [In64], by simp [In64], by show (0 : Nat) ≤ _; omega, by simp [LenOk], fun x hx => by simp at hx; rcases hx with rfl | rfl <;> simp [In64]⟩
theorem ex_defs : defsF [exB A7 A5] = [(0, 0, 0), (1, 0, 1), (2, 0, 2)] := rfl
theorem ex_good : GoodQ exN 0 3 [exB A7 A5] where
  name := ⟨by decide, by decide⟩
  par := by omega
  pos := by simp
  phis x hx := by simp at hx; subst hx; rfl
  src := rfl
  all := rfl
  ends x hx := by
    rw [List.mem_singleton] at hx
    subst hx
    exact .inr (.inr (.inl ⟨rfl, rfl, rfl⟩))
  vals := by
    refine ⟨fun x hx p hp => ?_, ?_⟩
    · rw [List.mem_singleton] at hx
      subst hx
      simp only [exB, List.mem_cons, List.not_mem_nil, or_false] at hp
      have e0 : (⟨#[]⟩ : ByteArray).size = 0 := rfl
      rcases hp with rfl | rfl | rfl <;> simp [shapeQ, makesQ, e0]
    · rw [ex_defs]
      exact ⟨by simp, by simp⟩
  reads k hk := by
    obtain rfl : k = 0 := by simp at hk; exact hk
    refine ⟨exB A7 A5, rfl, ⟨fun j p hp => by simp [exB] at hp, fun j p hp i a ha => ?_, fun _ => ?_⟩⟩
    · match j, hp with
      | 0, hp => simp [exB] at hp; subst hp; simp at ha
      | 1, hp => simp [exB] at hp; subst hp; simp at ha
      | 2, hp =>
        simp [exB] at hp
        subst hp
        match i, ha with
        | 0, ha => simp at ha; subst ha; exact ⟨by omega, by omega, .inr ⟨(0, 0), by rw [ex_defs]; rfl, .inl ⟨rfl, by simp⟩⟩⟩
        | 1, ha => simp at ha; subst ha; exact ⟨by omega, by omega, .inr ⟨(0, 1), by rw [ex_defs]; rfl, .inl ⟨rfl, by simp⟩⟩⟩
        | i + 2, ha => simp at ha
      | j + 3, hp => simp [exB] at hp
    · exact ⟨by simp [exB], by simp [exB], .inr ⟨(0, 2), by rw [ex_defs]; rfl, .inl ⟨rfl, by simp⟩⟩⟩
theorem ex_valid : validN exN 0 3 [exB A7 A5] = 0 := (valid_0 (by rintro (h | h) <;> simp [sizeF, sizeTo, exB] at h) ex_good).symm
theorem ex_use {v : Int} : ¬ UseQ (exB A7 A5) v := by
  rintro ⟨_, h | ⟨_, h, h2⟩⟩
  · simp only [exB, readL, List.not_mem_nil, false_or, List.mem_cons, or_false, and_false] at h
    omega
  · exact h2 _ (List.mem_cons_of_mem _ (List.mem_cons_of_mem _ List.mem_cons_self)) h
theorem ex_tg (b : Int) (hb : b = 0) : tg (bsOf [exB A7 A5]) b = [] := by subst hb; rfl
theorem ex_live {q : Bool} {b v : Int} (h : LV [exB A7 A5] q b v) : b ≠ 0 := by
  intro hb
  induction h with
  | @use b x v hx hu =>
    obtain rfl : b = 0 := by omega
    simp at hx
    subst hx
    exact ex_use hu
  | thru _ _ _ ih => exact ih hb
  | @phi b v h =>
    obtain ⟨t, x, j, p, i, hx, hp, _⟩ := h
    have := List.mem_of_getElem? hx
    rw [List.mem_singleton] at this
    subst this
    simp [exB] at hp
  | @edge b t v ht _ _ =>
    rw [ex_tg b hb] at ht
    simp at ht
theorem ex_lives : LiveS 3 [exB A7 A5] (fun _ _ => false) (fun _ _ => false) := by
  intro b hb v _ _
  obtain rfl : b = 0 := by simp at hb; exact hb
  exact ⟨⟨fun h => Bool.noConfusion h, fun h => absurd rfl (ex_live h)⟩, ⟨fun h => Bool.noConfusion h, fun h => absurd rfl (ex_live h)⟩⟩
theorem ex_io {q : Bool} : ioL q exN 0 3 [exB A7 A5] = [[]] := by
  rw [ioL_yes ex_valid]
  cases q with
  | true => exact (live_in ex_lives).symm
  | false => exact (live_out ex_lives).symm
theorem ex_end : endR (exB A7 A5) (fun _ => false) = fun v => v == 2 := by
  funext v
  unfold endR
  rw [Bool.eq_iff_iff]
  simp only [Bool.false_or, decide_eq_true_eq, beq_iff_eq]
  constructor
  · rintro ⟨_, h⟩; exact h.symm
  · rintro rfl; exact ⟨.inr ⟨rfl, by simp [exB]⟩, rfl⟩
theorem ex_most : mostN exN 0 3 [exB A7 A5] = 2 := by
  unfold mostN
  rw [if_pos ex_valid, show (3 : Int).toNat = 3 from rfl, show (0 : Int).toNat = 0 from rfl, ← most_live ex_lives]
  have e : besTo 3 0 [exB A7 A5] (fun _ _ => false) [exB A7 A5].length = blkC 3 0 0 (exB A7 A5) (fun _ => false) := by
    show besTo 3 0 [exB A7 A5] (fun _ _ => false) (0 + 1) = _
    rw [besTo_next (x := exB A7 A5) rfl]
    rfl
  rw [e]
  unfold blkC firstS
  rw [ex_end]
  rfl
end
end Go.Mor
namespace Go.Mor
open Go.RowKit
theorem io_small {q : Bool} {nm : ByteArray} {pa va : Int} {fs : List FBlk} (h : va ≤ 1000000) : ∀ x, x ∈ ioL q nm pa va fs → x.length ≤ 1000000 := by
  intro x hx
  unfold ioL at hx
  split at hx
  · unfold liveB liveL at hx
    obtain ⟨k, _, rfl⟩ := List.mem_map.1 hx
    refine Nat.le_trans (cardS_le (n := va.toNat)) (by omega)
  · cases hx
end Go.Mor
namespace Go.Mor
open Go.RowKit
theorem great5_len {va : Int} {fs : List FBlk} (h : ¬ great5Q va fs) : fs.length ≤ 1000 := Nat.le_trans (greatQ_len (fun e => h (.inl e))) (by decide)
section
variable {nm : ByteArray} {pa va : Int} {fs : List FBlk}
end
end Go.Mor

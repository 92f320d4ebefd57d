/-
  Texts of the proof, part 10.
-/
import Derived.Test.YthgbejihcchcnaaDoorZt9
import Derived.Recover
import Derived.Test.YthgbejihcchcnaaDoorChecked
set_option maxRecDepth 10000
namespace Go.Mor
open Go.RowKit
section
variable {P : Program} {c : Code} {K : Act → List Frame → World → Prop} {Q : Exit → Act → List Frame → World → Prop} {a : Act} {cs : List Frame} {w : World} {k : Nat}
end
end Go.Mor
namespace Go.Mor
open Go.RowKit
def Spec.ptr (xs : List Value) : Spec := .any (fun v w => ∃ ad, v = .pointer (some ad) ∧ (Res.rd (some ad) xs).holds w)
  (fun _ _ _ hK ⟨ad, hv, h⟩ => ⟨ad, hv, (Res.rd (some ad) xs).stable (fun g hg => hK.kept g ((Res.rd (some ad) xs).lt h hg) (fun h => h)) h⟩)
def s2aE (P : Program) (c : Code) (N : FN) (env : Env) (k : Nat) : Option (Option Nat × Nat × Value) := match coreAt c k with
  | some (d, .sliceToArrayPointer t x, _, g) => match guardE c g env, okd d N, ev env x, P.underlying t with
    | some true, true, some v, some (.array m _) => some (d, m, v)
    | _, _, _, _ => none
  | _ => none
def lvE (P : Program) (c : Code) (N : FN) (env : Env) (k : Nat) : Option (Option Nat × Value × Option Nat) := match coreAt c k with
  | some (d, .load t x, _, g) => match guardE c g env, okd d N, ev env x with
    | some true, true, some v => some (d, v, aggT P t)
    | _, _, _ => none
  | _ => none
def bnE (c : Code) (N : FN) (env : Env) (k : Nat) : Option (Option Nat × BinOp × TypeId × Value × Value) := match coreAt c k with
  | some (d, .binOp op t x y _, _, g) => match guardE c g env, okd d N, ev env x, ev env y with
    | some true, true, some u, some v => some (d, op, t, u, v)
    | _, _, _, _ => none
  | _ => none
theorem blk_rd {w : World} {b t : Nat} {cs : List Value} (h : (Res.blk b t cs).holds w) : (Res.rd (some ⟨b, 0, none⟩) cs).holds w := by
  intro j v hj
  refine ⟨_, rfl, ?_⟩
  have e : (⟨b, 0, none⟩ : Addr).add j = ⟨b, j, none⟩ := by unfold Addr.add; split <;> simp_all
  rw [e]
  exact blk_cell h hj
section
variable {P : Program} {c : Code} {Q : Exit → Act → World → Prop} {N : FN} {i : Nat} {env0 : Env} {wr : World} {sp : Nat → Spec}
theorem dA2 (j n : Nat) (xs : List Value) (hx : xs ≠ []) {m : Nat} (hmn : m ≤ n) (hj : memN (predsOf c i) j = true := by kernel_rfl) (hs : sp j = Spec.sl n xs := by rfl) (hsi : sp i = Spec.ptr xs := by rfl)
    (hg : ∀ vs, gtE c i (predE c i sp vs env0) = some true := by intro _; kernel_rfl) (hk : ∀ vs, s2aE P (one c i) N (predE c i sp vs env0) 0 = some (dstAt c i, m, vs j) := by intro _; kernel_rfl) (he : coreAt (one c i) 1 = none := by kernel_rfl) : OpOK P c Q N env0 wr sp i := by
  refine op_of hg (fun w vs hK hp a hF => ?_)
  have h0 := hp j (memN_iff.1 hj)
  rw [hs] at h0
  obtain ⟨A, cc, hv, hr⟩ := h0
  have hA : ∃ ad, A = some ad := by
    cases xs with
    | nil => exact absurd rfl hx
    | cons x r => obtain ⟨ad, h1, _⟩ := hr 0 x rfl; exact ⟨ad, h1⟩
  obtain ⟨ad, rfl⟩ := hA
  have h1 := hk vs
  unfold s2aE at h1
  split at h1
  · rename_i g0
    split at h1
    · rename_i v0 m0 e0 g1 g2 g3 g4
      simp only [Option.some.injEq, Prod.mk.injEq] at h1
      obtain ⟨rfl, rfl, rfl⟩ := h1
      refine From_same g0 hF g1 g2 rfl (fun o ho => ?_) (fun a' ea _ => From_end he ⟨_, ea, Kp.refl w, ?_⟩) (v := .pointer (some ad))
      · unfold execOp
        rw [ho]
        have hra := run_arrayAt (P := P) w _ e0 m0 (some ad) n cc g4 hmn
        simp only [hF.ev g3, hv, Sem.run_bind, hra, Result.andThen_ok]
        rfl
      · rw [hsi]; exact ⟨ad, rfl, hr⟩
    · cases h1
  · cases h1
theorem dLA (j : Nat) (xs : List Value) (hj : memN (predsOf c i) j = true := by kernel_rfl) (hs : sp j = Spec.ptr xs := by rfl) (hsi : sp i = .det (.agg xs.toArray) := by rfl)
    (hg : ∀ vs, gtE c i (predE c i sp vs env0) = some true := by intro _; kernel_rfl) (hk : ∀ vs, lvE P (one c i) N (predE c i sp vs env0) 0 = some (dstAt c i, vs j, some xs.length) := by intro _; kernel_rfl) (he : coreAt (one c i) 1 = none := by kernel_rfl) : OpOK P c Q N env0 wr sp i := by
  refine op_of hg (fun w vs hK hp a hF => ?_)
  have h0 := hp j (memN_iff.1 hj)
  rw [hs] at h0
  obtain ⟨ad, hv, hr⟩ := h0
  have h1 := hk vs
  unfold lvE at h1
  split at h1
  · rename_i g0
    split at h1
    · rename_i v0 g1 g2 g3
      simp only [Option.some.injEq, Prod.mk.injEq] at h1
      obtain ⟨rfl, rfl, h4⟩ := h1
      refine From_loadS g0 hF g1 g2 rfl (by rw [g3, hv]) h4 (fun q v hq => ?_) (fun a' ea _ => From_end he ⟨_, ea, Kp.refl w, by rw [hsi]; rfl⟩)
      obtain ⟨a0, ha, hc⟩ := hr q v hq
      injection ha with ha
      subst ha
      exact hc
    · cases h1
  · cases h1
theorem dEA {t : TypeId} {xs ys : Array Value} {b B : Bool} (hr : ∀ w, (binOp .eql t (.agg xs) (.agg ys)).run P w = .ok (.bool b) w) (hb : B = b) (hu : P.eqGuardType P.depth t = false := by kernel_rfl) (hsi : sp i = .det (.bool B) := by rfl)
    (hg : ∀ vs, gtE c i (predE c i sp vs env0) = some true := by intro _; kernel_rfl) (hk : ∀ vs, bnE (one c i) N (predE c i sp vs env0) 0 = some (dstAt c i, .eql, t, .agg xs, .agg ys) := by intro _; kernel_rfl) (he : coreAt (one c i) 1 = none := by kernel_rfl) : OpOK P c Q N env0 wr sp i := by
  refine op_of hg (fun w vs hK hp a hF => ?_)
  have h1 := hk vs
  unfold bnE at h1
  split at h1
  · rename_i g0
    split at h1
    · rename_i g1 g2 g3 g4
      simp only [Option.some.injEq, Prod.mk.injEq] at h1
      obtain ⟨rfl, rfl, e3, e4, e5⟩ := h1
      refine From_same g0 hF g1 g2 rfl (fun o ho => ?_) (fun a' ea _ => From_end he ⟨_, ea, Kp.refl w, ?_⟩) (v := .bool b)
      · unfold execOp
        rw [ho, e3]
        have hq : ∀ x y, (eqGuard .eql t x y (.agg xs) (.agg ys)).run P w = .ok () w := by
          intro x y
          simp [eqGuard, run_program, hu]
        simp only [hF.ev g3, hF.ev g4, e4, e5, Sem.run_bind, hq, hr, Result.andThen_ok]
        rfl
      · rw [hsi, hb]; rfl
    · cases h1
  · cases h1
end
end Go.Mor
namespace Go.Mor
open Go.RowKit
section
variable {P : Program} {c : Code} {K : Act → World → Prop} {Q : Exit → Act → World → Prop} {w w0 : World} {S : Nat → Prop} {L : List Res} {k : Nat} {N : FN} {env : Env}
end
section
variable {P : Program} {c : Code} {Q : Exit → Act → World → Prop} {N : FN} {i : Nat} {env0 : Env} {wr : World} {sp : Nat → Spec}
end
end Go.Mor
namespace Go.Mor
open Go.RowKit
def Apart (l : List Res) : Prop := l.Pairwise (fun r s => ∀ g, r.fp g → ¬ s.fp g)
def Res.pk (l : List Res) : Res where
  fp k := ∃ r, r ∈ l ∧ r.fp k
  holds w := (∀ r, r ∈ l → r.holds w) ∧ Apart l
  stable := fun h hw => ⟨fun r hr => r.stable (fun g hg => h g ⟨r, hr, hg⟩) (hw.1 r hr), hw.2⟩
  lt := fun ⟨h1, _⟩ ⟨r, hr, hg⟩ => r.lt (h1 r hr) hg
section
variable {S : Nat → Prop} {w0 w w' : World} {l l' L : List Res} {r : Res}
theorem Mem.unpk (h : (Res.pk l).holds w) : Mem (Res.pk l).fp w w l :=
  ⟨rfl, rfl, rfl, Nat.le_refl _, fun _ _ _ => rfl, fun r hr => ⟨h.1 r hr, fun _ hg => .inl ⟨r, hr, hg⟩⟩, h.2⟩
theorem Mem.pk_holds (h : Mem S w0 w (l ++ L)) : (Res.pk l).holds w := ⟨fun r hr => (h.own r (List.mem_append_left _ hr)).1, (List.pairwise_append.1 h.apart).1⟩
theorem Mem.pack (h : Mem S w0 w (l ++ L)) : Mem S w0 w (.pk l :: L) := by
  obtain ⟨h1, h2, h3⟩ := List.pairwise_append.1 h.apart
  refine ⟨h.os, h.tape, h.output, h.size, h.kept, fun r hr => ?_, List.pairwise_cons.2 ⟨?_, h2⟩⟩
  · rcases List.mem_cons.1 hr with rfl | hr
    · exact ⟨h.pk_holds, fun g ⟨q, hq, hg⟩ => (h.own q (List.mem_append_left _ hq)).2 g hg⟩
    · exact h.own r (List.mem_append_right _ hr)
  · rintro r hr g ⟨q, hq, hg⟩
    exact h3 q hq r hr g hg
theorem Mem.unpack (h : Mem S w0 w (.pk l :: L)) : Mem S w0 w (l ++ L) := by
  obtain ⟨h1, h2⟩ := List.pairwise_cons.1 h.apart
  obtain ⟨⟨h3, h4⟩, h5⟩ := h.own _ (List.mem_cons_self ..)
  refine ⟨h.os, h.tape, h.output, h.size, h.kept, fun r hr => ?_, List.pairwise_append.2 ⟨h4, h2, fun q hq r hr g hg => h1 r hr g ⟨q, hq, hg⟩⟩⟩
  rcases List.mem_append.1 hr with hr | hr
  · exact ⟨h3 r hr, fun g hg => h5 g ⟨r, hr, hg⟩⟩
  · exact h.own r (List.mem_cons_of_mem _ hr)
theorem Mem.mdk (h : Mem S w0 w (l ++ L)) (h' : Mem (Res.pk l).fp w w' l') : Mem S w0 w' (l' ++ L) := by
  have h1 : Mem (Res.pk l).fp w w' (l' ++ []) := by rw [List.append_nil]; exact h'
  have h2 := h.pack.mod 0 rfl h1.pack
  exact Mem.unpack (by simpa using h2)
theorem RO.pk_at (hA : RO S w0 r) (h : Mem S w0 w (l ++ L)) : RO (Res.pk l).fp w r := by
  refine ⟨h.ro hA, fun g hg ⟨q, hq, hgq⟩ => ?_⟩
  have h1 := r.lt hA.1 hg
  rcases (h.own q (List.mem_append_left _ hq)).2 g hgq with h2 | h2
  · exact hA.2 g hg h2
  · omega
theorem RO.pk_own (h : Mem S w0 w (l ++ L)) (i : Nat) (hi : L[i]? = some r) : RO (Res.pk l).fp w r := by
  have hm := List.mem_of_getElem? hi
  refine ⟨(h.own r (List.mem_append_right _ hm)).1, fun g hg ⟨q, hq, hgq⟩ => ?_⟩
  exact (List.pairwise_append.1 h.apart).2.2 q hq r hm g hgq hg
end
section
variable {P : Program} {c : Code} {K : Act → World → Prop} {Q : Exit → Act → World → Prop} {a : Act} {w w0 : World} {S : Nat → Prop} {L : List Res} {k k' : Nat} {N : FN} {env : Env} {d : Option Nat} {ty : Nat} {g : Option (Nat × Bool)}
end
end Go.Mor
namespace Go.Mor
open Go.RowKit
def tailOk (c : Code) (m : Nat) : Bool := (List.range (opsOf c).size).all fun i => Nat.blt i m || (List.range i).all (fun j => reach c (opsOf c).size i j)
theorem reach_lt {c : Code} (hpl : predsLt c = true) : ∀ {n j i : Nat}, j < (opsOf c).size → reach c n j i = true → i < j
  | 0, j, i, _, h => by simp [reach] at h
  | n + 1, j, i, hj, h => by
    have hp : ∀ k, k ∈ predsOf c j → k < j := by
      intro k hk
      simp only [predsLt, List.all_eq_true, List.mem_range] at hpl
      have := hpl j hj k hk
      simpa [Nat.blt_eq] using this
    simp only [reach, Bool.or_eq_true, List.any_eq_true] at h
    rcases h with h | ⟨k, hk, h⟩
    · exact hp i (memN_iff.1 h)
    · have h1 := hp k hk
      have := reach_lt hpl (by omega) h
      omega
theorem none_ready {c : Code} (hpl : predsLt c = true) {listed : Array Bool} (hsz : listed.size = (opsOf c).size) (hr : Region.ready .any (opsOf c) listed = []) : ∀ j, j < (opsOf c).size → listed.getD j false = true := by
  intro j
  induction j using Nat.strongRecOn with
  | _ j ih =>
    intro hj
    cases hq : listed.getD j false with
    | true => rfl
    | false =>
      exfalso
      have : j ∈ Region.ready .any (opsOf c) listed := by
        simp only [Region.ready, List.mem_filter, List.mem_range, Bool.and_eq_true, Bool.not_eq_true']
        have hjl : j < listed.size := by omega
        refine ⟨hj, ?_, ?_⟩
        · simp [Array.getD, hjl] at hq ⊢
          exact hq
        · have ho : (opsOf c)[j]? = some (opsOf c)[j] := by simp [hj]
          simp only [ho, Option.map_some, Option.getD_some]
          rw [Array.all_eq_true_iff_forall_mem]
          intro e he
          cases hb : Region.binds .any e with
          | false => rfl
          | true =>
            have hmem : e.on ∈ predsOf c j := by
              simp only [predsOf, ho, List.mem_map, List.mem_filter]
              exact ⟨e, ⟨Array.mem_toList_iff.2 he, hb⟩, rfl⟩
            have hlt : e.on < j := by
              simp only [predsLt, List.all_eq_true, List.mem_range] at hpl
              have := hpl j hj e.on hmem
              simpa [Nat.blt_eq] using this
            simp [ih e.on hlt (by omega)]
      rw [hr] at this
      simp at this
theorem ready_preds {c : Code} {listed : Array Bool} {i : Nat} (hr : i ∈ Region.ready .any (opsOf c) listed) : ∀ j, j ∈ predsOf c i → listed.getD j false = true := by
  obtain ⟨_, _, o, ho, hpre⟩ := ready_spec hr
  intro j hj
  simp only [predsOf, ho, List.mem_map, List.mem_filter] at hj
  obtain ⟨e, ⟨he, hb⟩, rfl⟩ := hj
  exact hpre e he hb
theorem ready_not {c : Code} {listed : Array Bool} (hsz : listed.size = (opsOf c).size) {i : Nat} (hr : i ∈ Region.ready .any (opsOf c) listed) : listed.getD i false = false := by
  obtain ⟨hlt, hnl, _⟩ := ready_spec hr
  have : i < listed.size := by omega
  simp [Array.getD, this] at hnl ⊢
  exact hnl
def restL (c : Code) (m : Nat) : Env → Env
  | [] => []
  | (t, v) :: r => match memN ((List.range m).filterMap (dstAt c)) t with
    | true => restL c m r
    | false => (t, v) :: restL c m r
theorem look_restL {c : Code} {m : Nat} : ∀ {env : Env} {t : Nat} {v : Value}, look (restL c m env) t = some v → (t, v) ∈ env ∧ ∀ j, j < m → dstAt c j ≠ some t
  | [], t, v, h => by simp [restL, look] at h
  | (k, u) :: r, t, v, h => by
    unfold restL at h
    cases hm : memN ((List.range m).filterMap (dstAt c)) k with
    | true =>
      rw [hm] at h
      obtain ⟨h1, h2⟩ := look_restL h
      exact ⟨List.mem_cons_of_mem _ h1, h2⟩
    | false =>
      rw [hm] at h
      simp only [look] at h
      cases hq : Nat.beq k t with
      | false =>
        rw [hq] at h
        obtain ⟨h1, h2⟩ := look_restL h
        exact ⟨List.mem_cons_of_mem _ h1, h2⟩
      | true =>
        rw [hq] at h
        injection h with h
        have := Nat.eq_of_beq_eq_true hq
        subst this
        subst h
        refine ⟨List.mem_cons_self .., fun j hj hdj => ?_⟩
        have : memN ((List.range m).filterMap (dstAt c)) k = true := memN_iff.2 (List.mem_filterMap.2 ⟨j, List.mem_range.2 hj, hdj⟩)
        rw [this] at hm
        cases hm
section
variable {P : Program} {c : Code} {K : Act → World → Prop} {Q : Exit → Act → World → Prop} {N : FN} {env0 : Env} {wr : World} {sp : Nat → Spec}
theorem lst_set {listed : Array Bool} {i j : Nat} (hi : i < listed.size) : (listed.setIfInBounds i true).getD j false = (decide (j = i) || listed.getD j false) := by
  by_cases e : i = j
  · subst e; simp [Array.getD_eq_getD_getElem?, hi]
  · have : ¬ j = i := fun h => e h.symm
    simp [Array.getD_eq_getD_getElem?, Array.getElem?_setIfInBounds_ne e, this]
theorem any_tail (hpl : predsLt c = true) {m : Nat} (ht : tailOk c m = true) : ∀ (n fuel k : Nat) (listed : Array Bool) (a : Act) (w : World), listed.size = (opsOf c).size → (opsOf c).size ≤ k + n → n ≤ fuel → m ≤ k → k ≤ (opsOf c).size →
    (∀ j, j < (opsOf c).size → listed.getD j false = decide (j < k)) → From P c K Q k a w → wpAny P .any (opsOf c) (Exit.then K Q) fuel listed a w := by
  intro n
  induction n with
  | zero =>
    intro fuel k listed a w hsz hs hf hmk hks hl h
    have hk : k = (opsOf c).size := by omega
    subst hk
    have hK : K a w := by
      unfold From at h
      rw [List.drop_eq_nil_of_le (by simp)] at h
      exact h
    have hno : ∀ i, ¬ i ∈ Region.ready .any (opsOf c) listed := fun i hi => by
      have h1 := ready_not hsz hi
      have h2 := (ready_spec hi).1
      rw [hl i h2] at h1
      simp [h2] at h1
    cases fuel with
    | zero => exact ⟨List.eq_nil_iff_forall_not_mem.2 hno, hK⟩
    | succ fuel => exact ⟨fun _ => hK, fun i hi => absurd hi (hno i)⟩
  | succ n ih =>
    intro fuel k listed a w hsz hs hf hmk hks hl h
    by_cases hk : k < (opsOf c).size
    · cases fuel with
      | zero => omega
      | succ fuel =>
        refine ⟨fun hr => ?_, fun i hi => ?_⟩
        · have := none_ready hpl hsz hr k hk
          rw [hl k hk] at this
          simp at this
        · have hin := ready_not hsz hi
          have hilt := (ready_spec hi).1
          have hik : i = k := by
            rw [hl i hilt] at hin
            have hge : k ≤ i := by simpa using hin
            rcases Nat.lt_or_eq_of_le hge with hgt | he
            · exfalso
              simp only [tailOk, List.all_eq_true, List.mem_range, Bool.or_eq_true] at ht
              have h1 : reach c (opsOf c).size i k = true := by
                rcases ht i hilt with h1 | h1
                · have : i < m := by simpa [Nat.blt_eq] using h1
                  omega
                · exact h1 k hgt
              cases hn : (opsOf c).size with
              | zero => omega
              | succ N' =>
                rw [hn] at h1
                simp only [reach, Bool.or_eq_true, List.any_eq_true] at h1
                rcases h1 with h1 | ⟨q, hq, h1⟩
                · have := ready_preds hi k (memN_iff.1 h1)
                  rw [hl k hk] at this
                  simp at this
                · have h2 := ready_preds hi q hq
                  have hqi : q < i := by
                    simp only [predsLt, List.all_eq_true, List.mem_range] at hpl
                    have := hpl i hilt q hq
                    simpa [Nat.blt_eq] using this
                  rw [hl q (by omega)] at h2
                  have h3 : q < k := by simpa using h2
                  have := reach_lt hpl (by omega) h1
                  omega
            · exact he.symm
          subst hik
          have ho : (opsOf c)[i]? = some (opsOf c)[i] := by simp [hk]
          generalize hoo : (opsOf c)[i] = o at ho
          unfold From at h
          rw [drop_at ho] at h
          unfold wpList at h
          have next : ∀ a' w', wpList P (opsOf c) (Exit.then K Q) ((opsOf c).toList.drop (i + 1)) a' w' → wpAny P .any (opsOf c) (Exit.then K Q) fuel (listed.setIfInBounds i true) a' w' := by
            intro a' w' h'
            refine ih fuel (i + 1) _ a' w' (by simpa using hsz) (by omega) (by omega) (by omega) (by omega) (fun j hj => ?_) h'
            rw [lst_set (by omega), hl j hj]
            by_cases e : j = i
            · subst e; simp
            · have : (j < i + 1) ↔ (j < i) := by omega
              simp [e, this]
          unfold wpOp
          rw [ho]
          simp only []
          split at h
          · rename_i hw
            rw [if_pos hw]
            exact h.imp (Oper.wp_mono next) id
          · rename_i hw
            rw [if_neg hw]
            exact next _ _ h
    · exact ih fuel k listed a w hsz (by omega) (by omega) hmk hks hl h
theorem draw_tail (hd : dstsOk c = true) (hdn : ∀ i d, dstAt c i = some d → d < N.n) (hpl : predsLt c = true) {m : Nat} (ht : tailOk c m = true) (hm : m ≤ (opsOf c).size) (hops : ∀ i, i < m → OpOK P c Q N env0 wr sp i)
    (hend : ∀ a w, (∀ listed : Array Bool, (∀ j, j < m → listed.getD j false = true) → (∀ j, m ≤ j → listed.getD j false = false) → Known c N env0 wr sp listed a w → From P c K Q m a w)) :
    ∀ (n fuel : Nat) (listed : Array Bool) (a : Act) (w : World), listed.size = (opsOf c).size → ((List.range (opsOf c).size).filter (fun j => !listed.getD j false)).length = n → n ≤ fuel → (∀ j, m ≤ j → listed.getD j false = false) → Known c N env0 wr sp listed a w →
      wpAny P .any (opsOf c) (Exit.then K Q) fuel listed a w := by
  intro n
  induction n using Nat.strongRecOn with
  | _ n ih =>
    intro fuel listed a w hsz hn hf hup hk
    by_cases hall : ∀ j, j < m → listed.getD j false = true
    · have hlen : (opsOf c).size ≤ m + n := by
        have h1 : ((List.range (opsOf c).size).filter (fun j => !listed.getD j false)).length = (opsOf c).size - m := by
          have e : (List.range (opsOf c).size).filter (fun j => !listed.getD j false) = (List.range (opsOf c).size).filter (fun j => decide (m ≤ j)) := by
            apply List.filter_congr
            intro j _
            by_cases hj : j < m
            · rw [hall j hj]; simp; omega
            · rw [hup j (by omega)]; simp; omega
          rw [e]
          have key : ∀ N, ((List.range N).filter (fun j => decide (m ≤ j))).length = N - m := by
            intro N
            induction N with
            | zero => simp
            | succ N ihN =>
              rw [List.range_succ, List.filter_append, List.length_append, ihN]
              by_cases h : m ≤ N
              · simp [h]; omega
              · simp [h]; omega
          exact key _
        omega
      refine any_tail hpl ht n fuel m listed a w hsz hlen hf (Nat.le_refl _) hm (fun j hj => ?_) (hend a w listed hall hup hk)
      by_cases h : j < m
      · rw [hall j h]; simp [h]
      · rw [hup j (by omega)]; simp [h]
    · have hpos : 0 < n := by
        rcases Nat.eq_zero_or_pos n with h0 | h0
        · exfalso
          apply hall
          intro j hj
          cases hq : listed.getD j false with
          | true => rfl
          | false =>
            have : j ∈ (List.range (opsOf c).size).filter (fun j => !listed.getD j false) := List.mem_filter.2 ⟨List.mem_range.2 (by omega), by rw [hq]; rfl⟩
            have := List.length_pos_of_mem this
            omega
        · exact h0
      cases fuel with
      | zero => omega
      | succ fuel =>
        refine ⟨fun hr => absurd (fun j hj => none_ready hpl hsz hr j (by omega)) hall, fun i hi => ?_⟩
        obtain ⟨h1, h2, _⟩ := ready_spec hi
        have him : i < m := by
          rcases Nat.lt_or_ge i m with h | h
          · exact h
          · exfalso
            apply hall
            intro j hj
            simp only [tailOk, List.all_eq_true, List.mem_range, Bool.or_eq_true] at ht
            have hre : reach c (opsOf c).size i j = true := by
              rcases ht i h1 with h3 | h3
              · have : i < m := by simpa [Nat.blt_eq] using h3
                omega
              · exact h3 j (by omega)
            exact donebefore (ls := fun q => listed.getD q false) (fun j hj q hq => hk.2.2.2.1 j hj q hq) (fun q hq => ready_preds hi q hq) hre
        have hni := ready_not hsz hi
        have hil : i < listed.size := by omega
        refine draw_step hd hdn (hops i him) hsz hi hk (fun a' w' hk' => ?_)
        have hlt : ((List.range (opsOf c).size).filter (fun j => !(listed.setIfInBounds i true).getD j false)).length < n := by
          rw [← hn]
          have hsub : ((List.range (opsOf c).size).filter (fun j => !(listed.setIfInBounds i true).getD j false)) = ((List.range (opsOf c).size).filter (fun j => !listed.getD j false)).filter (fun j => !(Nat.beq j i)) := by
            rw [List.filter_filter]
            apply List.filter_congr
            intro j _
            rw [lst_set hil]
            by_cases e : j = i
            · subst e; simp
            · have hb : Nat.beq j i = false := by
                cases hq : Nat.beq j i with
                | false => rfl
                | true => exact absurd (Nat.eq_of_beq_eq_true hq) e
              simp [e, hb]
          rw [hsub]
          have hmem : i ∈ (List.range (opsOf c).size).filter (fun j => !listed.getD j false) := List.mem_filter.2 ⟨List.mem_range.2 h1, by rw [hni]; rfl⟩
          exact List.length_filter_lt_length_iff_exists.2 ⟨i, hmem, by simp⟩
        refine ih _ hlt fuel _ a' w' (by simpa using hsz) rfl (by omega) (fun j hj => ?_) hk'
        rw [lst_set hil, hup j hj]
        have : j ≠ i := by omega
        simp [this]
theorem zdt (m : Nat) (sp : Nat → Spec) {a : Act} (hF : Fr a N env0) (hops : ∀ i, i < m → OpOK P c Q N env0 wr sp i)
    (h : ∀ a' w' (vs : Nat → Value), Kp wr w' → (∀ j, j < m → (sp j).ok (vs j) w') → Fr a' N (valsE c sp vs (List.range m) ++ restL c m env0) → From P c K Q m a' w')
    (ht : tailOk c m = true := by kernel_rfl) (hm' : Nat.ble m (opsOf c).size = true := by kernel_rfl)
    (hk : kind c = .region true := by kernel_rfl) (hm : P.follows .mixedOrders = true := by kernel_rfl) (hd : dstsOk c = true := by kernel_rfl) (hpl : predsLt c = true := by kernel_rfl) (hkeys : keysOk env0 = true := by kernel_rfl)
    (hdn : (List.range (opsOf c).size).all (fun i => okd (dstAt c i) N) = true := by kernel_rfl) : W P c K Q a wr := by
  have hdn' : ∀ i d, dstAt c i = some d → d < N.n := by
    intro i d hi
    have hlt : i < (opsOf c).size := by
      simp only [dstAt] at hi
      cases ho : (opsOf c)[i]? with
      | none => simp [ho] at hi
      | some o => exact (Array.getElem?_eq_some_iff.1 ho).1
    simp only [List.all_eq_true, List.mem_range] at hdn
    have := hdn i hlt
    rw [hi] at this
    simpa [okd, Nat.blt_eq] using this
  have hm2 := Nat.le_of_ble_eq_true hm'
  cases c <;> simp [kind] at hk
  rename_i id ops dr
  subst hk
  refine wp_region_any hm ?_
  have hrep : ∀ j, (Array.replicate ops.size false).getD j false = false := by
    intro j
    simp only [Array.getD_eq_getD_getElem?, Array.getElem?_replicate]
    split <;> rfl
  have h0 : Known (.region id ops true) N env0 wr sp (Array.replicate ops.size false) a { wr with drawn := wr.drawn + 1 } := by
    refine ⟨Mem.drew wr, hF.defers, hF.size, ?_, ⟨fun _ => undef, ?_⟩, fun t v htv _ => hF.slot t v (keys_look hkeys htv)⟩
    · intro j hj; rw [hrep j] at hj; cases hj
    · intro j hj; rw [hrep j] at hj; cases hj
  refine draw_tail (c := .region id ops true) hd hdn' hpl ht hm2 hops ?_ _ ops.size _ a _ (by simp [opsOf]) rfl ?_ (fun j _ => hrep j) h0
  · intro a' w' listed hall hup hk
    obtain ⟨hkp, hdef, hsz, _, ⟨vs, hvs⟩, hbase⟩ := hk
    refine h a' w' vs hkp (fun j hj => (hvs j (hall j hj)).1) ⟨hdef, hsz, fun t v hv => ?_⟩
    rcases look_append hv with h1 | h1
    · obtain ⟨j, hj, hdj, rfl⟩ := look_vals h1
      obtain ⟨h2, h3⟩ := hvs j (hall j (List.mem_range.1 hj))
      rw [Spec.val_ok h2]
      exact h3 t hdj
    · obtain ⟨h2, h3⟩ := look_restL h1
      refine hbase t v h2 (fun j hj => ?_)
      rcases Nat.lt_or_ge j m with hjm | hjm
      · exact h3 j hjm
      · rw [hup j hjm] at hj; cases hj
  · refine Nat.le_trans (List.length_filter_le _ _) ?_
    simp [opsOf]
variable {i : Nat}
end
end Go.Mor
namespace Go.Mor
open Go.RowKit
section
variable {P : Program} {c : Code} {K : Act → World → Prop} {Q : Exit → Act → World → Prop} {w w0 : World} {S : Nat → Prop} {L : List Res} {k : Nat} {N : FN} {env : Env}
end
section
variable {P : Program} {c : Code} {Q : Exit → Act → World → Prop} {N : FN} {i : Nat} {env0 : Env} {wr : World} {sp : Nat → Spec}
end
end Go.Mor
namespace Go.Mor
open Go.RowKit
section
variable {P : Program} {c : Code} {K : Act → World → Prop} {Q : Exit → Act → World → Prop} {w : World} {k : Nat} {N : FN} {env : Env}
end
end Go.Mor
namespace Go.Mor
end Go.Mor
namespace Go.Mor
open Go.RowKit
def slhE (P : Program) (c : Code) (N : FN) (env : Env) (k : Nat) : Option (Option Nat × Option Addr × Nat × Int) := match coreAt c k with
  | some (d, .slice t x none (some y) none, _, g) => match guardE c g env, okd d N, ev env x, ev env y, P.underlying t with
    | some true, true, some (.slice A _ cap), some (.int _ i), some (.slice e) => match (P.info? e).map (·.size) with
      | some _ => some (d, A, cap, i)
      | none => none
    | _, _, _, _, _ => none
  | _ => none
section
variable {P : Program} {c : Code} {K : Act → World → Prop} {Q : Exit → Act → World → Prop} {w w0 : World} {S : Nat → Prop} {L : List Res} {k : Nat} {N : FN} {env : Env}
theorem zhi {A : Option Addr} {cap : Nat} {i : Int} (m : Nat) (hi : i = (m : Int)) (hm : m ≤ cap) (h : ∀ a, Fr a N (putE env (dstAt c k) (.slice A m cap)) → From P c K Q (k + 1) a w) (hk : slhE P c N env k = some (dstAt c k, A, cap, i)) : ∀ a, Fr a N env → From P c K Q k a w := fun a hF => by
  unfold slhE at hk
  split at hk
  · rename_i h0
    split at hk
    · rename_i h1 h2 h3 h4 h5
      split at hk
      · rename_i sz h6
        simp only [Option.some.injEq, Prod.mk.injEq] at hk
        obtain ⟨rfl, rfl, rfl, rfl⟩ := hk
        exact From_sliceHi h0 hF h1 h2 rfl m h3 h4 hi h5 h6 hm (fun a' _ => h a')
      · cases hk
    · cases hk
  · cases hk
end
end Go.Mor
namespace Go.Mor
open Go.RowKit
section
variable {P : Program} {c : Code} {K : Act → World → Prop} {Q : Exit → Act → World → Prop} {w w0 : World} {S : Nat → Prop} {L : List Res} {k k' : Nat} {N : FN} {env : Env}
theorem zlv {kt e t : TypeId} {kd : TypeDesc} {α : Type} [BEq α] {inj : α → Value} (KL : KLaw P kt kd inj) (s : α) (z : Value) {b : Nat} {l : List (α × Value)} (hm : MapIs w b (inK inj l)) (ok : Bool) {v : Value} (e' : lkV ok (lkp l s) z = v) (h : ∀ a, Fr a N (putE env (dstAt c k) v) → From P c K Q (k + 1) a w)
    (ht : P.underlying t = some (.map kt e)) (hz : (P.info? e).map (·.zero) = some (some z) := by kernel_rfl) (hk : lkE c N env k = some (dstAt c k, t, b, inj s, ok) := by kernel_rfl) : ∀ a, Fr a N env → From P c K Q k a w := by
  subst e'
  exact zlk KL s z hm ok h ht hz hk
end
end Go.Mor
namespace Go.Mor
open Go.RowKit
section
variable {P : Program} {c : Code} {w w0 : World} {S : Nat → Prop} {L : List Res} {k : Nat} {N : FN} {env : Env}
end
section
variable {P : Program} {c : Code} {K : Act → World → Prop} {Q : Exit → Act → World → Prop} {w : World} {k : Nat} {N : FN} {env : Env}
end
theorem RO.nil_ {S : Nat → Prop} {w : World} : RO S w (.rd none []) := ⟨fun j v h => by simp at h, fun g hg => absurd rfl hg.1⟩
end Go.Mor
namespace Go.Mor
open Go.RowKit
def ciE (c : Code) (N : FN) (env : Env) (k : Nat) : Option (Option Nat × Value × String × List Value) := match coreAt c k with
  | some (d, .call ⟨.invoke r nm, args, _⟩, _, g) => match guardE c g env, okd d N, evs env args.toList with
    | some true, true, some vs => match ev env r with
      | some v => some (d, v, nm, vs)
      | none => none
    | _, _, _ => none
  | _ => none
def mbE (c : Code) (N : FN) (env : Env) (k : Nat) : Option (Option Nat × Builtin × TypeId × Nat) := match coreAt c k with
  | some (d, .call ⟨.builtin b, args, ats⟩, _, g) => match guardE c g env, okd d N, evs env args.toList, ats with
    | some true, true, some [.map (some m)], ⟨[t]⟩ => some (d, b, t, m)
    | _, _, _, _ => none
  | _ => none
section
variable {P : Program} {c : Code} {K : Act → World → Prop} {Q : Exit → Act → World → Prop} {w w0 : World} {S : Nat → Prop} {L : List Res} {k : Nat} {N : FN} {env : Env}
theorem From_ci {a : Act} (d : Option Nat) (rv : Value) (nm : String) (vs : List Value) (hF : Fr a N env) (hk : ciE c N env k = some (d, rv, nm, vs)) {f : FuncId} {us : Array Value}
    (hm : (callMethod rv nm vs.toArray).run P w = .ok (.enter f us) w) {Φ : Value → World → Prop} (hc : Calls P f us w (Ret Φ))
    (h : ∀ v w', Φ v w' → ∀ a', Fr a' N (putE env d v) → From P c K Q (k + 1) a' w') : From P c K Q k a w := by
  unfold ciE at hk
  split at hk
  · rename_i d0 r nm0 args ats ty g hcore
    split at hk
    · rename_i vs0 hg hd hargs
      split at hk
      · rename_i v0 hr0
        simp only [Option.some.injEq, Prod.mk.injEq] at hk
        obtain ⟨rfl, rfl, rfl, rfl⟩ := hk
        refine From_op hcore hF hg fun o h1 h2 h3 K' hK' => ?_
        unfold Oper.wp
        have hr : (execOp a.eval o).run P w = .ok (.enter f us) w := by
          unfold execOp
          rw [h2]
          have e1 := evs_map hF hargs
          have e2 : args.map a.eval = vs0.toArray := by apply Array.ext'; simpa using e1
          have e4 : (#[v0] ++ vs0.toArray).extract 1 (#[v0] ++ vs0.toArray).size = vs0.toArray := by apply Array.ext'; simp
          have e5 : (#[v0] ++ vs0.toArray)[0]? = some v0 := by simp
          simp only [resolve, hF.ev hr0, e2, Sem.run_bind, Sem.run_pure, Result.andThen_ok, invoke, e4, e5, hm]
        rw [hr, Oper.upon_enter]
        refine hc.mono ?_
        rintro e w' ⟨v, rfl, hv⟩
        rw [h1]
        exact hK' _ _ (h v w' hv _ (hF.put hd v))
      · cases hk
    · cases hk
  · cases hk
theorem zci {rv : Value} {nm : String} {vs : List Value} {f : FuncId} {us : Array Value} {Φ : Value → World → Prop} (hc : Calls P f us w (Ret Φ)) (h : ∀ v w', Φ v w' → ∀ a, Fr a N (putE env (dstAt c k) v) → From P c K Q (k + 1) a w')
    (hm : (callMethod rv nm vs.toArray).run P w = .ok (.enter f us) w) (hk : ciE c N env k = some (dstAt c k, rv, nm, vs) := by kernel_rfl) : ∀ a, Fr a N env → From P c K Q k a w := fun _ hF => From_ci _ rv nm vs hF hk hm hc h
theorem From_ti {a : Act} {d : Option Nat} {x : Operand} {xt t ty : TypeId} {g : Option (Nat × Bool)} {k' : Nat} (hk : coreAt c k = some (d, .typeAssert x xt t false, ty, g)) (hF : Fr a N env) (hg : guardE c g env = some true) (hd : okd d N = true) (hk' : k + 1 = k') {X v : Value}
    (hx : ev env x = some X) (hr : (Instr.typeAssert X xt t false).run P w = .ok v w) (h : ∀ a', a' = a.put d v → Fr a' N (putE env d v) → From P c K Q k' a' w) : From P c K Q k a w := by
  refine From_same hk hF hg hd hk' (v := v) (fun o ho => ?_) h
  unfold execOp
  rw [ho]
  simp [hF.ev hx, hr]
theorem mb_spec {d : Option Nat} {b : Builtin} {t : TypeId} {m : Nat} (h : mbE c N env k = some (d, b, t, m)) : ∃ args ats ty g, coreAt c k = some (d, .call ⟨.builtin b, args, ats⟩, ty, g) ∧ guardE c g env = some true ∧ okd d N = true ∧
    evs env args.toList = some [.map (some m)] ∧ ats = #[t] := by
  unfold mbE at h
  split at h
  · rename_i d0 b0 args ats ty g h0
    split at h
    · rename_i m0 t0 h1 h2 h3
      simp only [Option.some.injEq, Prod.mk.injEq] at h
      obtain ⟨rfl, rfl, rfl, rfl⟩ := h
      exact ⟨_, _, _, _, h0, h1, h2, h3, rfl⟩
    · cases h
  · cases h
theorem zmc {b : Nat} {l : List (Value × Value)} {t kt e : TypeId} (hM : Mem S w0 w L) (i : Nat) (hi : L[i]? = some (.map b l)) (ht : P.underlying t = some (.map kt e))
    (h : ∀ w', Mem S w0 w' (L.set i (.map b [])) → ∀ a, Fr a N (putE env (dstAt c k) (.tuple #[])) → From P c K Q (k + 1) a w')
    (hk : mbE c N env k = some (dstAt c k, .clear, t, b) := by kernel_rfl) : ∀ a, Fr a N env → From P c K Q k a w := fun a hF => by
  obtain ⟨args, ats, ty, g, h0, h1, h2, h3, rfl⟩ := mb_spec hk
  obtain ⟨es, clock, hb, hl, hlt, hnd⟩ := hM.get i hi
  have hbl : b < w.heap.size := lt_of_heap hb
  have hset : ∀ o : Obj, (setObj b o).run P w = .ok () { w with heap := w.heap.setIfInBounds b o } := fun o => by
    simp only [setObj, Sem.run, hb]
  have hm : Mem (Res.map b l).fp w { w with heap := w.heap.setIfInBounds b (.map #[] clock) } [.map b []] := by
    refine Mem.setMap ⟨es, clock, hb, hl, hlt, hnd⟩ ⟨#[], clock, ?_, rfl, by simp, by simp⟩
    show (w.heap.setIfInBounds b _)[b]? = _
    rw [Array.getElem?_setIfInBounds_self_of_lt hbl]
  have hM' : Mem S w0 { w with heap := w.heap.setIfInBounds b (.map #[] clock) } (L.set i (.map b [])) := by simpa using hM.mod i hi hm
  refine From_val h0 hF h1 (v := .tuple #[]) (w' := { w with heap := w.heap.setIfInBounds b (.map #[] clock) }) (fun o ho _ => ?_) (h _ hM' _ (hF.put h2 _))
  unfold execOp
  rw [ho]
  have e2 : args.map a.eval = #[.map (some b)] := by apply Array.ext'; simpa using evs_map hF h3
  simp [resolve, e2, invoke, builtin, Builtin.clear_, run_underlying ht, Sem.run_bind, Sem.run_pure, run_getMap hb, hset, Result.andThen]
end
theorem half_run {P : Program} {t : TypeId} {j : Nat} (h1 : j ≤ 1000000) (w : World) : (binOp .quo t (.int .i64 ((j : Int) - 1)) (.int .i64 2)).run P w = .ok (.int .i64 (((j - 1) / 2 : Nat) : Int)) w := by
  rcases Nat.eq_zero_or_pos j with h | h
  · subst h
    exact (show (binOp .quo t (.int .i64 (-1)) (.int .i64 2)).run P w = .ok (.int .i64 0) w by kernel_rfl)
  · have h2 := bin_quoN (P := P) (t := t) (i := j - 1) 2 (by omega) (by decide) w
    rw [show ((j - 1 : Nat) : Int) = (j : Int) - 1 by omega] at h2
    exact h2
theorem run_ldv {P : Program} {w : World} {t : TypeId} {ad : Addr} {v : Value} (ht : oneT P t = true) (hc : w.cell? ad = some v) : (loadVar t ad).run P w = .ok v w := by
  simp [loadVar, isAgg_one ht, hc]
def methE (P : Program) (t : TypeId) (nm : String) : Option (FuncId × Bool) := match P.info? t with
  | some ti => match ti.methods.find? (·.name == nm) with
    | some m => match m.path with
      | ⟨[]⟩ => m.func
      | _ => none
    | none => none
  | none => none
theorem run_meth {P : Program} {w : World} {t : TypeId} {v rv : Value} {nm : String} {f : FuncId} {b : Bool} {n : Nat} (hm : methE P t nm = some (f, b))
    (hr : (receiverAt t (.val v) b (some ((nm.splitOn ".").getLastD nm))).run P w = .ok rv w) : (method (n + 1) t v nm).run P w = .ok (f, rv) w := by
  unfold methE at hm
  split at hm
  · rename_i ti hti
    split at hm
    · rename_i m hfi
      split at hm
      · rename_i hp
        unfold method
        have h1 : (typeInfo t).run P w = .ok ti w := by simp [typeInfo, hti]
        have e : m.path.isEmpty = true := by rw [hp]; rfl
        simp only [Sem.run_bind, h1, Result.andThen_ok, hfi, hp, follow, Sem.run_pure, hm, if_true]
        have e2 : (if (#[] : Array FieldStep).isEmpty = true then some ((nm.splitOn ".").getLastD nm) else none) = some ((nm.splitOn ".").getLastD nm) := rfl
        rw [e2, hr]
        rfl
      · cases hm
    · cases hm
  · cases hm
theorem run_cm {P : Program} {w : World} {t : TypeId} {v rv : Value} {nm : String} {f : FuncId} {b : Bool} {args us : Array Value} (hm : methE P t nm = some (f, b))
    (hr : (receiverAt t (.val v) b (some ((nm.splitOn ".").getLastD nm))).run P w = .ok rv w) (hf : callOk P f = true) (hu : #[rv] ++ args = us) : (callMethod (.iface t v) nm args).run P w = .ok (.enter f us) w := by
  have hn : P.types.size + Made.depth = (P.types.size + (Made.depth - 1)) + 1 := congrArg (P.types.size + ·) (show Made.depth = (Made.depth - 1) + 1 by decide)
  unfold callMethod
  simp only [Sem.run_bind, run_program, Result.andThen_ok]
  rw [hn, run_meth hm hr]
  simp only [Result.andThen_ok, run_callFunc hf, hu]
section
variable {P : Program} {fn : Func} {w : World} {N : FN} {env : Env} {Φ : Value → World → Prop}
theorem zr0 (h : Φ (.tuple #[]) w) (hk : fn.results = #[] := by rfl) (hD : N.D = [] := by rfl) : ∀ a, Fr a N env → bodyPost P fn (Ret Φ) .ret a w :=
  fun _ hF => ⟨hF.defers.trans hD, _, results_none hk _ _ _, _, rfl, h⟩
def rs3E (fn : Func) (env : Env) : Option (Value × Value × Value) := match fn.results.toList with
  | [.tmp t, .tmp u, .tmp x] => match look env t, look env u, look env x with
    | some v, some v', some v'' => some (v, v', v'')
    | _, _, _ => none
  | _ => none
theorem zo3 (v v' v'' : Value) (h : Φ (.tuple #[v, v', v'']) w) (hk : rs3E fn env = some (v, v', v'') := by kernel_rfl) (hD : N.D = [] := by rfl) : ∀ a, Fr a N env → bodyPost P fn (Ret Φ) .ret a w := fun a hF => by
  unfold rs3E at hk
  split at hk
  · rename_i t u x ht
    split at hk
    · rename_i h1 h2 h3
      simp only [Option.some.injEq, Prod.mk.injEq] at hk
      obtain ⟨rfl, rfl, rfl⟩ := hk
      have hr : fn.results = #[.tmp t, .tmp u, .tmp x] := by apply Array.ext'; simpa using ht
      refine bodyPost_ret (v := .tuple #[_, _, _]) ?_ (hF.defers.trans hD) ⟨_, rfl, h⟩
      have e1 := hF.ev (x := .tmp t) h1
      have e2 := hF.ev (x := .tmp u) h2
      have e3 := hF.ev (x := .tmp x) h3
      simp only [Act.eval] at e1 e2 e3
      rw [← e1, ← e2, ← e3]
      simp [results, hr]
    · cases hk
  · cases hk
end
def mxE (c : Code) (N : FN) (env : Env) (k : Nat) : Option (Option Nat × Int × Int) := match coreAt c k with
  | some (d, .call ⟨.builtin .max, ⟨[x, y]⟩, _⟩, _, g) => match guardE c g env, okd d N, ev env x, ev env y with
    | some true, true, some (.int .i64 i), some (.int .i64 j) => some (d, i, j)
    | _, _, _, _ => none
  | _ => none
theorem dMX {P : Program} {c : Code} {Q : Exit → Act → World → Prop} {N : FN} {i : Nat} {env0 : Env} {wr : World} {sp : Nat → Spec} (x y : Int) (hv : sp i = .det (.int .i64 (max x y)) := by rfl)
    (hg : ∀ vs, gtE c i (predE c i sp vs env0) = some true := by intro _; kernel_rfl) (hk : ∀ vs, mxE (one c i) N (predE c i sp vs env0) 0 = some (dstAt c i, x, y) := by intro _; kernel_rfl) (he : coreAt (one c i) 1 = none := by kernel_rfl) : OpOK P c Q N env0 wr sp i := by
  refine op_of hg (fun w vs hK hp a hF => ?_)
  have h := hk vs
  unfold mxE at h
  split at h
  · rename_i d x0 y0 ats ty g h0
    split at h
    · rename_i i0 j0 h1 h2 h3 h4
      simp only [Option.some.injEq, Prod.mk.injEq] at h
      obtain ⟨hd, rfl, rfl⟩ := h
      refine From_max h0 hF h1 h2 rfl h3 h4 (max i0 j0) (by split <;> omega) (fun a' ea _ => From_end he ⟨_, by rw [← hd]; exact ea, Kp.refl w, by rw [hv]; rfl⟩)
    · cases h
  · cases h
theorem dML {P : Program} {c : Code} {Q : Exit → Act → World → Prop} {N : FN} {i : Nat} {env0 : Env} {wr : World} {sp : Nat → Spec} {b : Nat} {t kt e : TypeId} {l : List (Value × Value)} (hm : ∀ w, Kp wr w → MapIs w b l) (ht : P.underlying t = some (.map kt e))
    (hv : sp i = .det (.int .i64 (l.length : Int)) := by rfl) (hg : ∀ vs, gtE c i (predE c i sp vs env0) = some true := by intro _; kernel_rfl) (hk : ∀ vs, mbE (one c i) N (predE c i sp vs env0) 0 = some (dstAt c i, .len, t, b) := by intro _; kernel_rfl)
    (he : coreAt (one c i) 1 = none := by kernel_rfl) : OpOK P c Q N env0 wr sp i := by
  refine op_of hg (fun w vs hK hp a hF => ?_)
  obtain ⟨args, ats, ty, g, h0, h1, h2, h3, rfl⟩ := mb_spec (hk vs)
  obtain ⟨es, clock, hb, hl, hlt, hnd⟩ := hm w hK
  refine From_same h0 hF h1 h2 rfl (v := .int .i64 (l.length : Int)) (fun o ho => ?_) (fun a' ea _ => From_end he ⟨_, ea, Kp.refl w, by rw [hv]; rfl⟩)
  unfold execOp
  rw [ho]
  have e2 : args.map a.eval = #[.map (some b)] := by apply Array.ext'; simpa using evs_map hF h3
  have e3 : l.length = es.size := by rw [← hl]; simp
  simp [resolve, e2, invoke, builtin, Builtin.len_, run_underlying ht, Sem.run_bind, Sem.run_pure, run_getMap hb, Result.andThen, goInt, e3]
end Go.Mor
namespace Go.Proofs.YthgbejihcchcnaaDoor
open Go.Mor Go.RowKit
theorem mLen (ad : Addr) (v : Value) (w : World) (hc : w.cell? ad = some v) : (callMethod (.iface 126 (.pointer (some ad))) "Len" #[]).run Tryd.prog w = .ok (.enter 115 #[v]) w := by
  refine run_cm (b := false) (by kernel_rfl) ?_ (by kernel_rfl) (by rfl)
  exact (show _ = (loadVar 68 ad).run Tryd.prog w by kernel_rfl).trans (run_ldv (by kernel_rfl) hc)
theorem mLess (ad : Addr) (v : Value) (x y : Value) (w : World) (hc : w.cell? ad = some v) : (callMethod (.iface 126 (.pointer (some ad))) "Less" #[x, y]).run Tryd.prog w = .ok (.enter 116 #[v, x, y]) w := by
  refine run_cm (b := false) (by kernel_rfl) ?_ (by kernel_rfl) (by rfl)
  exact (show _ = (loadVar 68 ad).run Tryd.prog w by kernel_rfl).trans (run_ldv (by kernel_rfl) hc)
theorem mSwap (ad : Addr) (v : Value) (x y : Value) (w : World) (hc : w.cell? ad = some v) : (callMethod (.iface 126 (.pointer (some ad))) "Swap" #[x, y]).run Tryd.prog w = .ok (.enter 117 #[v, x, y]) w := by
  refine run_cm (b := false) (by kernel_rfl) ?_ (by kernel_rfl) (by rfl)
  exact (show _ = (loadVar 68 ad).run Tryd.prog w by kernel_rfl).trans (run_ldv (by kernel_rfl) hc)
theorem mPush (p x : Value) (w : World) : (callMethod (.iface 126 p) "Push" #[x]).run Tryd.prog w = .ok (.enter 119 #[p, x]) w := by kernel_rfl
theorem mPop (p : Value) (w : World) : (callMethod (.iface 126 p) "Pop" #[]).run Tryd.prog w = .ok (.enter 118 #[p]) w := by kernel_rfl
end Go.Proofs.YthgbejihcchcnaaDoor
namespace Go.Proofs.YthgbejihcchcnaaDoor
open Go.Mor
theorem fLen_c (A : Option Addr) (n c : Nat) (w : World) :
    Calls Tryd.prog 115 #[(.slice A n c)] w (Ret fun v w' => v = .int .i64 (n : Int) ∧ Mem noS w w' []) := by
 refine zen 5 [(.slice A n c)] Tryd.func115 ?_
 have hM := Mem.init w
 refine zsp <| zsp <| zre <| zo1 (.int .i64 ((n : Nat) : Int)) ?_
 exact ⟨rfl, hM⟩
theorem fLess_c (l : List Int) (A : Option Addr) (len c i j : Nat) (w : World) (hn : l.length = len) (hi : i < len) (hj : j < len) (hr : RO noS w (.rd A (ints l))) :
    Calls Tryd.prog 116 #[(.slice A len c), (nV i), (nV j)] w (Ret fun v w' => v = .bool (decide (l.getD i 0 < l.getD j 0)) ∧ Mem noS w w' []) := by
 obtain ⟨x, hx⟩ := get_of (l := l) (i := i) (by omega)
 obtain ⟨y, hy⟩ := get_of (l := l) (i := j) (by omega)
 have ex : l.getD i 0 = x := by simp [List.getD, hx]
 have ey : l.getD j 0 = y := by simp [List.getD, hy]
 refine zen 16 [(.slice A len c), (nV i), (nV j)] Tryd.func116 ?_
 have hM := Mem.init w
 refine zsp <| zsq ?_
 obtain ⟨ad1, rfl⟩ := rd_some (hM.ro hr) (by simp [ints]; omega)
 refine zkp [(0, (.slice (some ad1) len c)), (1, (nV i)), (2, (nV j))] ?_
 intro aC fr
 refine zdt 8 (N := 16) (env0 := [(0, (.slice (some ad1) len c)), (1, (nV i)), (2, (nV j))]) (specAt [.det (.slice (some ad1) len c), .det (nV i), .det (.pointer (some ((ad1 : Addr).add (((i : Int)).toNat * 1)))), .det (.int .i64 x), .det (.slice (some ad1) len c), .det (nV j), .det (.pointer (some ((ad1 : Addr).add (((j : Int)).toNat * 1)))), .det (.int .i64 y)]) fr (la (la (la (la (la (la (la (la lz dP) dP) (dI ad1 len 1 (i : Int))) (dL ((ad1 : Addr).add (((i : Int)).toNat * 1)) (.int .i64 x) fun w_ hK => (rd_at ((hM.then_ hK).ro hr) rfl hx))) dP) dP) (dI ad1 len 1 (j : Int))) (dL ((ad1 : Addr).add (((j : Int)).toNat * 1)) (.int .i64 y) fun w_ hK => (rd_at ((hM.then_ hK).ro hr) rfl hy))) ?_
 intro aC w6 vs hK hv fr
 revert aC; refine zkp [(10, (.int .i64 x)), (14, (.int .i64 y))] ?_
 have M7 := hM.then_ hK
 clear hK hv fr aC hM; clear vs
 refine zpn 2 <| zfe <| zre <| zo1 (.bool (decide ((x : Int) < y))) ?_
 exact ⟨by rw [ex, ey], M7⟩
theorem fSwap_c (l : List Int) (A : Option Addr) (len c i j : Nat) (w : World) (hn : l.length = len) (hi : i < len) (hj : j < len) (hr : (Res.row 3 1 A len c (ints l)).holds w) :
    Calls Tryd.prog 117 #[(.slice A len c), (nV i), (nV j)] w (Ret fun v w' => v = .tuple #[] ∧ Mem (Res.row 3 1 A len c (ints l)).fp w w' [.row 3 1 A len c (ints (swL l i j))]) := by
 obtain ⟨x, hx⟩ := get_of (l := l) (i := i) (by omega)
 obtain ⟨y, hy⟩ := get_of (l := l) (i := j) (by omega)
 have ex : l.getD i 0 = x := by simp [List.getD, hx]
 have ey : l.getD j 0 = y := by simp [List.getD, hy]
 refine zen 20 [(.slice A len c), (nV i), (nV j)] Tryd.func117 ?_
 have hM := Mem.initS hr
 obtain ⟨g1, rfl⟩ := row_some (hM.get 0 rfl) (by omega)
 refine zkp [(0, (.slice (sM g1) len c)), (1, (nV i)), (2, (nV j))] ?_
 intro aC fr
 refine zdj (N := 20) (env0 := [(0, (.slice (sM g1) len c)), (1, (nV i)), (2, (nV j))]) (specAt [.det (.slice (sM g1) len c), .det (nV i), .det (.slice (sM g1) len c), .det (nV j), .det (.slice (sM g1) len c), .det (nV j), .det (.pointer (some ((⟨g1, 0, none⟩ : Addr).add (((j : Int)).toNat * 1)))), .det (.int .i64 y), .det (.slice (sM g1) len c), .det (nV i), .det (.pointer (some ((⟨g1, 0, none⟩ : Addr).add (((i : Int)).toNat * 1)))), .det (.int .i64 x), .det (.pointer (some ((⟨g1, 0, none⟩ : Addr).add (((i : Int)).toNat * 1)))), .det undef, .det (.pointer (some ((⟨g1, 0, none⟩ : Addr).add (((j : Int)).toNat * 1)))), .det undef]) (fun ls vs w_ => match ls 15 with | true => (Mem (Res.row 3 1 (sM g1) len c (ints l)).fp w w_ [.row 3 1 (sM g1) len c (((ints l).set (((i : Int)).toNat * 1) (.int .i64 y)).set (((j : Int)).toNat * 1) (.int .i64 x))]) | false => (match ls 13 with | true => (Mem (Res.row 3 1 (sM g1) len c (ints l)).fp w w_ [.row 3 1 (sM g1) len c ((ints l).set (((i : Int)).toNat * 1) (.int .i64 y))]) | false => (Mem (Res.row 3 1 (sM g1) len c (ints l)).fp w w_ [.row 3 1 (sM g1) len c (ints l)]))) fr (plain_ok (.det (.det (.det (.det (.det (.det (.det (.det (.det (.det (.det (.det (.det (.det (.det (.det .nil))))))))))))))))) (hM.then_ (Mem.drew _)) (la (la (la (la (la (la (la (la (la (la (la (la (la (la (la (la lz (dPJ fun _ _ _ _ h => h)) (dPJ fun _ _ _ _ h => h)) (dPJ fun _ _ _ _ h => h)) (dPJ fun _ _ _ _ h => h)) (dPJ fun _ _ _ _ h => h)) (dPJ fun _ _ _ _ h => h)) (dIJ ⟨g1, 0, none⟩ len 1 (j : Int) fun _ _ _ _ h => h)) (dLJ ((⟨g1, 0, none⟩ : Addr).add (((j : Int)).toNat * 1)) (.int .i64 y) (fun _ _ _ _ h => h) ?_)) (dPJ fun _ _ _ _ h => h)) (dPJ fun _ _ _ _ h => h)) (dIJ ⟨g1, 0, none⟩ len 1 (i : Int) fun _ _ _ _ h => h)) (dLJ ((⟨g1, 0, none⟩ : Addr).add (((i : Int)).toNat * 1)) (.int .i64 x) (fun _ _ _ _ h => h) ?_)) (dIJ ⟨g1, 0, none⟩ len 1 (i : Int) fun _ _ _ _ h => h)) ?_) (dIJ ⟨g1, 0, none⟩ len 1 (j : Int) fun _ _ _ _ h => h)) ?_) ?_
 intro w_ ls vs hJ hi_ hc_ hp
 have f13 : ls 13 = false := notyet hc_ hi_ (n := 16) (by kernel_rfl)
 have f15 : ls 15 = false := notyet hc_ hi_ (n := 16) (by kernel_rfl)
 have hM_ := hJ
 simp only [f13, f15] at hM_
 exact (rd_at (row_rd (hM_.get 0 rfl)) rfl hy)
 intro w_ ls vs hJ hi_ hc_ hp
 have f13 : ls 13 = false := notyet hc_ hi_ (n := 16) (by kernel_rfl)
 have f15 : ls 15 = false := notyet hc_ hi_ (n := 16) (by kernel_rfl)
 have hM_ := hJ
 simp only [f13, f15] at hM_
 exact (rd_at (row_rd (hM_.get 0 rfl)) rfl hx)
 intro aa_ w_ ls vs rest_ hJ hi_ hc_ hp hF
 refine okG (g0 := none) ?_
 replace hF : Fr aa_ 20 [(13, (.int .i64 y)), (18, (.pointer (some ((⟨g1, 0, none⟩ : Addr).add (((i : Int)).toNat * 1)))))] := hF.kp [13, 18]
 have f13 : ls 13 = false := hi_
 have f15 : ls 15 = false := notyet hc_ hi_ (n := 16) (by kernel_rfl)
 have hM_ := hJ
 simp only [f13, f15] at hM_
 refine From_store_row (by kernel_rfl : coreAt _ 0 = some (none, (.store 3 (.tmp 18) (.tmp 13)), 0, none)) hF (by kernel_rfl) (by kernel_rfl) (k' := 1) rfl (ad := (⟨g1, 0, none⟩ : Addr)) (j := (((i : Int)).toNat * 1)) (e := 3) (size := 1) (n := len) (cap := c) (v := (.int .i64 y)) (xs := (ints l)) (ad' := ((⟨g1, 0, none⟩ : Addr).add (((i : Int)).toNat * 1))) (by kernel_rfl) rfl (by kernel_rfl) (by kernel_rfl) rfl hM_ 0 rfl (by omega) ?_
 intro w2 hm2 _ a2 ea _
 refine From_end (by kernel_rfl) ?_; refine op_doneJ (d := none) (by kernel_rfl) ea rfl ?_
 show match ls 15 with | true => _ | false => (_)
 rw [f15]
 exact hm2
 intro aa_ w_ ls vs rest_ hJ hi_ hc_ hp hF
 refine okG (g0 := none) ?_
 replace hF : Fr aa_ 20 [(17, (.int .i64 x)), (19, (.pointer (some ((⟨g1, 0, none⟩ : Addr).add (((j : Int)).toNat * 1)))))] := hF.kp [17, 19]
 have f13 : ls 13 = true := donebefore hc_ (fun k hk => (hp k hk).1) (n := 16) (by kernel_rfl)
 have f15 : ls 15 = false := hi_
 have hM_ := hJ
 simp only [f13, f15] at hM_
 refine From_store_row (by kernel_rfl : coreAt _ 0 = some (none, (.store 3 (.tmp 19) (.tmp 17)), 0, none)) hF (by kernel_rfl) (by kernel_rfl) (k' := 1) rfl (ad := (⟨g1, 0, none⟩ : Addr)) (j := (((j : Int)).toNat * 1)) (e := 3) (size := 1) (n := len) (cap := c) (v := (.int .i64 x)) (xs := ((ints l).set (((i : Int)).toNat * 1) (.int .i64 y))) (ad' := ((⟨g1, 0, none⟩ : Addr).add (((j : Int)).toNat * 1))) (by kernel_rfl) rfl (by kernel_rfl) (by kernel_rfl) rfl hM_ 0 rfl (by omega) ?_
 intro w2 hm2 _ a2 ea _
 refine From_end (by kernel_rfl) ?_; refine op_doneJ (d := none) (by kernel_rfl) ea rfl ?_
 show _
 exact hm2
 intro aC w6 ls vs hall M7 hv fr
 simp only [show ls 15 = true from hall 15 (by decide)] at M7
 revert aC; refine zkp [] ?_
 clear hall hv fr aC hM; clear vs ls
 refine zo0 ?_
 have M8 : Mem (Res.row 3 1 (sM g1) len c (ints l)).fp w w6 [.row 3 1 (sM g1) len c (ints (swL l i j))] := M7.cast (by simp only [Int.toNat_natCast, Nat.mul_one, swL, ints_set, ex, ey])
 exact ⟨rfl, M8⟩
theorem fPop_c (g : Nat) (pl nx : Value) (l : List Int) (A : Option Addr) (c : Nat) (w : World) (h0 : 0 < l.length) (hb : (Res.blk g 70 [pl, .slice A l.length c, nx]).holds w) (hr : (Res.row 3 1 A l.length c (ints l)).holds w) (hfar : ∀ k, (Res.blk g 70 [pl, .slice A l.length c, nx]).fp k → ¬ (Res.row 3 1 A l.length c (ints l)).fp k) (hll : l.length ≤ 1000000) :
    Calls Tryd.prog 118 #[(pT g 1)] w (Ret fun v w' => v = .iface 3 (.int .i64 (l.getD (l.length - 1) 0)) ∧ Mem ((Res.blk g 70 [pl, .slice A l.length c, nx]).and (Res.row 3 1 A l.length c (ints l))).fp w w' [.blk g 70 [pl, .slice A (l.length - 1) c, nx], .row 3 1 A (l.length - 1) c (ints (l.take (l.length - 1)))]) := by
 refine zen 23 [(pT g 1)] Tryd.func118 ?_
 have hM := Mem.init2 hb hr hfar
 refine zsp <| zsr <| zpn 2 <| zld ⟨g, 1, none⟩ (.slice A l.length c) (blk_cell (hM.get 0 rfl) rfl) <| zpn 1 <| zfe <| zsr ?_
 obtain ⟨x, hx⟩ := get_of (l := l) (i := l.length - 1) (by omega)
 have ex : l.getD (l.length - 1) 0 = x := by simp [List.getD, hx]
 have hcl := row_le hr
 refine zpn 3 ?_
 intro aC fr
 refine From_ar (some 11) ((l.length - 1 : Nat) : Int) fr (z0 := ((l.length : Nat) : Int) - 1) (by kernel_rfl) (by omega) (by omega) (by omega) ?_
 intro aC fr
 obtain ⟨g6, rfl⟩ := row_some (hM.get 1 rfl) (by omega)
 revert aC
 refine zix ⟨g6, 0, none⟩ l.length 1 ((l.length - 1 : Nat) : Int) <| zld ((⟨g6, 0, none⟩ : Addr).add ((((l.length - 1 : Nat) : Int)).toNat * 1)) (.int .i64 x) (rd_at (row_rd (hM.get 1 rfl)) rfl hx) <| zpn 1 <| zfe <| zsr <| zpn 4 <| zar (((l.length : Nat) : Int) - 1) ?_
 refine zhi (A := (sM g6)) (cap := c) (i := ((l.length : Nat) : Int) - 1) (l.length - 1) (by omega) (by omega) ?_ (by kernel_rfl)
 refine zkp [(4, (.int .i64 x)), (14, (pT g 1)), (19, (.slice (sM g6) (l.length - 1) c))] <| zpn 1 <| zsb (ho := (by simp)) hM 0 1 (.slice (sM g6) (l.length - 1) c) rfl fun w7 M8 => ?_
 replace M8 := M8.nf
 clear hM
 refine zfe <| zsp <| zre <| zo1 (.iface 3 (.int .i64 x)) ?_
 have M9 : Mem ((Res.blk g 70 [pl, .slice (sM g6) l.length c, nx]).and (Res.row 3 1 (sM g6) l.length c (ints l))).fp w w7 [.blk g 70 [pl, (.slice (sM g6) (l.length - 1) c), nx], .row 3 1 (sM g6) (l.length - 1) c (ints (l.take (l.length - 1)))] := (M8.take_row 1 rfl (l.length - 1) (by omega)).cast (by simp [ints, List.map_take])
 exact ⟨by rw [ex], M9⟩
theorem fPush_c (g : Nat) (pl nx : Value) (l : List Int) (A : Option Addr) (c : Nat) (x : Int) (w : World) (hb : (Res.blk g 70 [pl, .slice A l.length c, nx]).holds w) (hr : (Res.row 3 1 A l.length c (ints l)).holds w) (hfar : ∀ k, (Res.blk g 70 [pl, .slice A l.length c, nx]).fp k → ¬ (Res.row 3 1 A l.length c (ints l)).fp k) (hll : l.length ≤ 1000000) :
    Calls Tryd.prog 119 #[(pT g 1), (.iface 3 (.int .i64 x))] w (Ret fun v w' => ∃ A' c', v = .tuple #[] ∧ Mem ((Res.blk g 70 [pl, .slice A l.length c, nx]).and (Res.row 3 1 A l.length c (ints l))).fp w w' [.blk g 70 [pl, .slice A' (l.length + 1) c', nx], .row 3 1 A' (l.length + 1) c' (ints (l ++ [x]))]) := by
 refine zen 13 [(pT g 1), (.iface 3 (.int .i64 x))] Tryd.func119 ?_
 have hM := Mem.init2 hb hr hfar
 refine zkp [(0, (pT g 1)), (1, (.iface 3 (.int .i64 x)))] ?_
 intro aC fr
 refine zdj (N := 13) (env0 := [(0, (pT g 1)), (1, (.iface 3 (.int .i64 x)))]) (specAt [.det (pT g 1), .det (pT g 1), .det (pT g 1), .det (.slice A l.length c), .det (.iface 3 (.int .i64 x)), .det (.int .i64 x), Spec.free, Spec.free, .det (pT g 1), .det undef]) (fun ls vs w_ => match ls 9 with | true => (∃ (g1 : Nat) (A2 : Option Addr) (c3 : Nat), vs 6 = (.slice (sM g1) 1 1) ∧ vs 7 = (.slice A2 (l.length + 1) c3) ∧ Mem ((Res.blk g 70 [pl, .slice A l.length c, nx]).and (Res.row 3 1 A l.length c (ints l))).fp w w_ [.blk g 70 [pl, (.slice A2 (l.length + 1) c3), nx], .row 3 1 A2 (l.length + 1) c3 ((ints l) ++ [(.int .i64 x)]), .row 3 1 (sM g1) 1 1 [(.int .i64 x)]]) | false => (match ls 7 with | true => (∃ (g1 : Nat) (A2 : Option Addr) (c3 : Nat), vs 6 = (.slice (sM g1) 1 1) ∧ vs 7 = (.slice A2 (l.length + 1) c3) ∧ Mem ((Res.blk g 70 [pl, .slice A l.length c, nx]).and (Res.row 3 1 A l.length c (ints l))).fp w w_ [.blk g 70 [pl, (.slice A l.length c), nx], .row 3 1 A2 (l.length + 1) c3 ((ints l) ++ [(.int .i64 x)]), .row 3 1 (sM g1) 1 1 [(.int .i64 x)]]) | false => (match ls 6 with | true => (∃ (g1 : Nat), vs 6 = (.slice (sM g1) 1 1) ∧ Mem ((Res.blk g 70 [pl, .slice A l.length c, nx]).and (Res.row 3 1 A l.length c (ints l))).fp w w_ [.blk g 70 [pl, (.slice A l.length c), nx], .row 3 1 A l.length c (ints l), .row 3 1 (sM g1) 1 1 [(.int .i64 x)]]) | false => (Mem ((Res.blk g 70 [pl, .slice A l.length c, nx]).and (Res.row 3 1 A l.length c (ints l))).fp w w_ [.blk g 70 [pl, (.slice A l.length c), nx], .row 3 1 A l.length c (ints l)])))) fr (plain_ok (.det (.det (.det (.det (.det (.det (.free (.free (.det (.det .nil))))))))))) (hM.then_ (Mem.drew _)) (la (la (la (la (la (la (la (la (la (la lz (dPJ fun _ _ _ _ h => h)) (dPJ fun _ _ _ _ h => h)) (dPJ fun _ _ _ _ h => h)) (dLJ ⟨g, 1, none⟩ (.slice A l.length c) (fun _ _ _ _ h => h) ?_)) (dPJ fun _ _ _ _ h => h)) ?_) ?_) ?_) (dPJ fun _ _ _ _ h => h)) ?_) ?_
 intro w_ ls vs hJ hi_ hc_ hp
 have f7 : ls 7 = false := notyet hc_ hi_ (n := 10) (by kernel_rfl)
 have f9 : ls 9 = false := notyet hc_ hi_ (n := 10) (by kernel_rfl)
 have hM_ := hJ
 simp only [f7, f9] at hM_
 cases fu : ls 6
 simp only [fu] at hM_
 exact (blk_cell (hM_.get 0 rfl) rfl)
 simp only [fu] at hM_
 obtain ⟨_, _, hM_⟩ := hM_
 exact (blk_cell (hM_.get 0 rfl) rfl)
 intro aa_ w_ ls vs rest_ hJ hi_ hc_ hp hF
 refine okG (g0 := none) ?_
 replace hF : Fr aa_ 13 [(8, (.iface 3 (.int .i64 x)))] := hF.kp [8]
 have f6 : ls 6 = false := notyet hc_ hi_ (n := 10) (by kernel_rfl)
 have f7 : ls 7 = false := notyet hc_ hi_ (n := 10) (by kernel_rfl)
 have f9 : ls 9 = false := notyet hc_ hi_ (n := 10) (by kernel_rfl)
 have hM_ := hJ
 simp only [f6, f7, f9] at hM_
 refine From_ti (by kernel_rfl : coreAt _ 0 = some (some 9, (.typeAssert (.tmp 8) 20 3 false), 3, none)) hF (by kernel_rfl) (by kernel_rfl) (k' := 1) rfl (X := (.iface 3 (.int .i64 x))) (v := (.int .i64 x)) (by kernel_rfl) (by kernel_rfl) ?_
 intro a2 ea _
 refine From_end (by kernel_rfl) ?_; exact op_doneJ (d := some 9) (by kernel_rfl) ea rfl hJ
 intro aa_ w_ ls vs rest_ hJ hi_ hc_ hp hF
 refine okG (g0 := none) ?_
 replace hF : Fr aa_ 13 [(9, (.int .i64 x))] := hF.kp [9]
 have f6 : ls 6 = false := hi_
 have f7 : ls 7 = false := notyet hc_ hi_ (n := 10) (by kernel_rfl)
 have f9 : ls 9 = false := notyet hc_ hi_ (n := 10) (by kernel_rfl)
 have hM_ := hJ
 simp only [f6, f7, f9] at hM_
 refine zBs 10 68 1 #[(0, (.tmp 9))] 68 hF (e := 3) (size := 1) (zs := [(.int .i64 0)]) (vs := [(0, (.int .i64 x))]) (cs := [(.int .i64 x)]) hM_ ?_
 intro g1p w2 _ _ hm2 _ a2 ea _
 refine From_end (by kernel_rfl) ?_; refine op_doneJ (d := some 10) (by kernel_rfl) ea trivial ?_
 show match ls 9 with | true => _ | false => (match ls 7 with | true => _ | false => (∃ (g1 : Nat), _))
 rw [f9, f7]
 exact ⟨g1p, rfl, hm2⟩
 intro aa_ w_ ls vs rest_ hJ hi_ hc_ hp hF
 refine okG (g0 := none) ?_
 replace hF : Fr aa_ 13 [(7, (.slice A l.length c)), (10, vs 6)] := hF.kp [7, 10]
 have f6 : ls 6 = true := donebefore hc_ (fun k hk => (hp k hk).1) (n := 10) (by kernel_rfl)
 have f7 : ls 7 = false := hi_
 have f9 : ls 9 = false := notyet hc_ hi_ (n := 10) (by kernel_rfl)
 have hM_ := hJ
 simp only [f6, f7, f9] at hM_
 obtain ⟨g1p, e6_, hM_⟩ := hM_
 try rw [e6_] at hF
 refine zAp 11 (.tmp 7) (.tmp 10) 68 68 hF (e := 3) (size := 1) (bytes := 8) (z := (.int .i64 0)) (A := A) (B := (sM g1p)) (n := l.length) (cap := c) (m := 1) (cap' := 1) (xs := (ints l)) (news := [(.int .i64 x)]) hM_ 1 rfl (row_rd (hM_.get 2 rfl)) rfl (by simp [Value.oneCell']) (by omega) (by simp only [maxLen]; omega) ?_
 intro A2p c3p w2 hm2 _ a2 ea _
 refine From_end (by kernel_rfl) ?_; refine op_doneJ (d := some 11) (by kernel_rfl) ea trivial ?_
 show match ls 9 with | true => _ | false => (∃ (g1 : Nat) (A2 : Option Addr) (c3 : Nat), _)
 rw [f9]
 exact ⟨g1p, A2p, c3p, e6_, rfl, hm2⟩
 intro aa_ w_ ls vs rest_ hJ hi_ hc_ hp hF
 refine okG (g0 := none) ?_
 replace hF : Fr aa_ 13 [(11, vs 7), (12, (pT g 1))] := hF.kp [11, 12]
 have f6 : ls 6 = true := donebefore hc_ (fun k hk => (hp k hk).1) (n := 10) (by kernel_rfl)
 have f7 : ls 7 = true := donebefore hc_ (fun k hk => (hp k hk).1) (n := 10) (by kernel_rfl)
 have f9 : ls 9 = false := hi_
 have hM_ := hJ
 simp only [f6, f7, f9] at hM_
 obtain ⟨g1p, A2p, c3p, e6_, e7_, hM_⟩ := hM_
 try rw [e6_] at hF
 try rw [e7_] at hF
 refine From_store_blk (by kernel_rfl : coreAt _ 0 = some (none, (.store 68 (.tmp 12) (.tmp 11)), 0, none)) hF (by kernel_rfl) (by kernel_rfl) (k' := 1) rfl (b := g) (off := 1) (t0 := 70) (v := (.slice A2p (l.length + 1) c3p)) (cs := [pl, (.slice A l.length c), nx]) (by kernel_rfl) (by kernel_rfl) (by kernel_rfl) rfl hM_ 0 rfl (by simp) ?_
 intro w2 hm2 _ a2 ea _
 refine From_end (by kernel_rfl) ?_; refine op_doneJ (d := none) (by kernel_rfl) ea rfl ?_
 show ∃ (g1 : Nat) (A2 : Option Addr) (c3 : Nat), _
 exact ⟨g1p, A2p, c3p, e6_, e7_, hm2⟩
 intro aC w8 ls vs hall M9 hv fr
 simp only [show ls 9 = true from hall 9 (by decide)] at M9
 revert aC; refine zkp [] ?_
 obtain ⟨g1, A2, c3, e6_, e7_, M9⟩ := M9
 try rw [e6_]
 try rw [e7_]
 clear e6_ e7_
 clear hall hv fr aC hM; clear vs ls
 refine zo0 ?_
 have M10 : Mem ((Res.blk g 70 [pl, .slice A l.length c, nx]).and (Res.row 3 1 A l.length c (ints l))).fp w w8 [.blk g 70 [pl, (.slice A2 (l.length + 1) c3), nx], .row 3 1 A2 (l.length + 1) c3 (ints (l ++ [x])), .row 3 1 (sM g1) 1 1 [(.int .i64 x)]] := M9.cast (by simp [ints])
 have M11 := M10.od [1, 1] 2
 exact ⟨_, _, rfl, M11⟩
end Go.Proofs.YthgbejihcchcnaaDoor
namespace Go.Proofs.YthgbejihcchcnaaDoor
open Go.Mor
theorem up_c (g : Nat) (pl nx : Value) (l : List Int) (A : Option Addr) (len c : Nat) (j0 : Nat) (w : World) (hj0 : j0 < len) (hn : l.length = len) (hb : (Res.blk g 70 [pl, .slice A len c, nx]).holds w) (hr : (Res.row 3 1 A len c (ints l)).holds w) (hfar : ∀ k, (Res.blk g 70 [pl, .slice A len c, nx]).fp k → ¬ (Res.row 3 1 A len c (ints l)).fp k) (hll : len ≤ 1000000) :
    Calls Tryd.prog 95 #[(.iface 126 (pT g 1)), (nV j0)] w (Ret fun v w' => v = .tuple #[] ∧ Mem ((Res.blk g 70 [pl, .slice A len c, nx]).and (Res.row 3 1 A len c (ints l))).fp w w' [.blk g 70 [pl, .slice A len c, nx], .row 3 1 A len c (ints (upL (j0 + 1) l j0))]) := by
 refine zen 23 [(.iface 126 (pT g 1)), (nV j0)] Tryd.func95 ?_
 have hM := Mem.init2 hb hr hfar
 refine zbk 0 ?_
 intro aC fr
 refine zlp (fun n_ a_ w_ => ∃ (f : Nat) (j : Nat) (m : List Int), n_ = 2 * f ∧ Fr a_ 23 [(0, (.iface 126 (pT g 1))), (1, (nV j))] ∧ Mem ((Res.blk g 70 [pl, .slice A len c, nx]).and (Res.row 3 1 A len c (ints l))).fp w w_ [.blk g 70 [pl, (.slice A len c), nx], .row 3 1 A len c (ints m)] ∧ (j < f) ∧ (j < len) ∧ (m.length = len) ∧ (upL f m j = upL (j0 + 1) l j0)) (n := _) ⟨(j0 + 1), j0, l, rfl, fr.kp [0, 1], hM, by omega, by omega, hn, rfl⟩ ?_
 clear fr aC hM; rintro n aC w3 ⟨f, j, m, rfl, fr, M4, hf, hj, hm, hup⟩
 revert aC
 refine zbk 1 <| zsr ?_
 obtain ⟨f0, rfl⟩ : ∃ f0, f = f0 + 1 := ⟨f - 1, by omega⟩
 refine zpn 1 <| zar ((j : Int) - 1) ?_
 intro aC fr
 refine From_binI (by kernel_rfl : coreAt _ 2 = some (some 7, (.binOp .quo 3 (.tmp 6) (.const (.int .i64 2)) 3), 3, none)) fr (by kernel_rfl) (by kernel_rfl) (k' := 3) rfl (kd := .i64) (kd' := .i64) (i := (j : Int) - 1) (j := 2) (z := .int .i64 ((((j - 1) / 2) : Nat) : Int)) (by kernel_rfl) (by kernel_rfl) (fun w => half_run (by omega) w) ?_
 intro aC ea fr; clear ea
 revert aC
 refine zpn 1 <| zfe <| zsq <| zsr <| zpn 4 ?_
 obtain ⟨B11, hB11⟩ : ∃ B : Bool, B = ((((((j - 1) / 2) : Nat) : Int) : Int) == (j : Int)) := ⟨_, rfl⟩
 refine zkp [(0, (.iface 126 (pT g 1))), (1, (nV j)), (4, (.int .i64 ((((j - 1) / 2) : Nat) : Int))), (11, (.bool ((((((j - 1) / 2) : Nat) : Int) : Int) == (j : Int))))] ?_
 rw [← hB11]
 have iB11 : B11 = true ↔ ((((((j - 1) / 2) : Nat) : Int) : Int) = (j : Int)) := by rw [hB11]; simp only [beq_iff_eq]
 clear hB11
 intro aC fr
 refine zpk 3 7 [12, 13, 14] fr (news := [(12, (cond (!B11) (.iface 126 (pT g 1)) undef)), (13, (cond (!B11) (nV j) undef)), (14, (cond (!B11) (.int .i64 ((((j - 1) / 2) : Nat) : Int)) undef))]) (by cases B11 <;> kernel_rfl) ?_
 intro aC fr
 cases B11
 have c11 : ¬ ((((((j - 1) / 2) : Nat) : Int) : Int) = (j : Int)) := (fun h => Bool.noConfusion (iB11.2 h) : ¬ ((((((j - 1) / 2) : Nat) : Int) : Int) = (j : Int)))
 revert aC
 refine zci (rv := (.iface 126 (pT g 1))) (nm := "Less") (vs := [(nV j), (.int .i64 ((((j - 1) / 2) : Nat) : Int))]) (fLess_c m A len c j ((j - 1) / 2) w3 hm (by omega) (by omega) (RO.of (row_rd (M4.get 1 rfl)))) ?_ (mLess _ _ _ _ _ (blk_cell (M4.get 0 rfl) rfl))
 rintro _ w16 ⟨rfl, M17x⟩
 have M17 := M4.cl M17x
 refine zpn 2 <| zfe <| zcP (!(decide (m.getD j 0 < m.getD ((j - 1) / 2) 0))) (¬ (m.getD j 0 < m.getD ((j - 1) / 2) 0)) (by simp only [notT, decide_eq_true_eq]) (fun c18 => ?_) (fun c18 => ?_)
 refine zex 0 <| zbm <| zbh <| zo0 ?_
 have M19 : Mem ((Res.blk g 70 [pl, .slice A len c, nx]).and (Res.row 3 1 A len c (ints l))).fp w w16 [.blk g 70 [pl, (.slice A len c), nx], .row 3 1 A len c (ints (upL (j0 + 1) l j0))] := M17.cast (by rw [← hup, upL_stop (by first | exact .inl (by omega) | exact .inr (by assumption))])
 exact ⟨rfl, M19⟩
 refine zsk <| zsr <| zpn 3 ?_
 refine zci (rv := (.iface 126 (pT g 1))) (nm := "Swap") (vs := [(.int .i64 ((((j - 1) / 2) : Nat) : Int)), (nV j)]) (fSwap_c m A len c ((j - 1) / 2) j w16 hm (by omega) (by omega) (M17.get 1 rfl)) ?_ (mSwap _ _ _ _ _ (blk_cell (M17.get 0 rfl) rfl))
 rintro _ w20 ⟨rfl, M21x⟩
 have M21 := M17.md 1 rfl M21x
 refine zfe <| zrp ?_
 intro aC fr
 exact ⟨2 * f0, by omega, f0, ((j - 1) / 2), (swL m ((j - 1) / 2) j), rfl, fr.kp [0, 1], M21, by omega, by omega, by rw [swL_len]; exact hm, by rw [← hup]; exact (upL_go (by omega) (by first | assumption | exact Classical.not_not.1 (by assumption))).symm⟩
 have c11 : ((((((j - 1) / 2) : Nat) : Int) : Int) = (j : Int)) := iB11.1 rfl
 revert aC
 refine zpn 3 <| zfe <| zcT <| zex 0 <| zbm <| zbh <| zo0 ?_
 have M24 : Mem ((Res.blk g 70 [pl, .slice A len c, nx]).and (Res.row 3 1 A len c (ints l))).fp w w3 [.blk g 70 [pl, (.slice A len c), nx], .row 3 1 A len c (ints (upL (j0 + 1) l j0))] := M4.cast (by rw [← hup, upL_stop (by first | exact .inl (by omega) | exact .inr (by assumption))])
 exact ⟨rfl, M24⟩
theorem down_c (g : Nat) (pl nx : Value) (l : List Int) (A : Option Addr) (len c : Nat) (F0 i0 n0 : Nat) (w : World) (hi0 : i0 < len) (hn0 : n0 ≤ len) (hF0 : n0 < F0 + i0) (hn : l.length = len) (hb : (Res.blk g 70 [pl, .slice A len c, nx]).holds w) (hr : (Res.row 3 1 A len c (ints l)).holds w) (hfar : ∀ k, (Res.blk g 70 [pl, .slice A len c, nx]).fp k → ¬ (Res.row 3 1 A len c (ints l)).fp k) (hll : len ≤ 1000000) :
    Calls Tryd.prog 94 #[(.iface 126 (pT g 1)), (nV i0), (nV n0)] w (Ret fun v w' => ∃ b, v = .bool b ∧ Mem ((Res.blk g 70 [pl, .slice A len c, nx]).and (Res.row 3 1 A len c (ints l))).fp w w' [.blk g 70 [pl, .slice A len c, nx], .row 3 1 A len c (ints (dnL F0 l i0 n0))]) := by
 refine zen 48 [(.iface 126 (pT g 1)), (nV i0), (nV n0)] Tryd.func94 ?_
 have hM := Mem.init2 hb hr hfar
 refine zsp <| zsp <| zsq <| zbk 0 ?_
 intro aC fr
 refine zlp (fun n_ a_ w_ => ∃ (f : Nat) (i : Nat) (m : List Int), n_ = 2 * f ∧ Fr a_ 48 [(0, (.iface 126 (pT g 1))), (1, (nV i0)), (2, (nV n0)), (7, (nV i))] ∧ Mem ((Res.blk g 70 [pl, .slice A len c, nx]).and (Res.row 3 1 A len c (ints l))).fp w w_ [.blk g 70 [pl, (.slice A len c), nx], .row 3 1 A len c (ints m)] ∧ (n0 < f + i) ∧ (i < len) ∧ (m.length = len) ∧ (dnL f m i n0 = dnL F0 l i0 n0)) (n := _) ⟨F0, i0, l, rfl, fr.kp [0, 1, 2, 7], hM, by omega, by omega, hn, rfl⟩ ?_
 clear fr aC hM; rintro n aC w3 ⟨f, i, m, rfl, fr, M4, hf, hi, hm, hdn⟩
 revert aC
 refine zbk 1 <| zsr <| zpn 1 ?_
 intro aC fr
 refine From_ar (some 13) ((2 * i : Nat) : Int) fr (z0 := 2 * (i : Int)) (by kernel_rfl) (by omega) (by omega) (by omega) ?_
 intro aC fr
 refine From_ar (some 14) ((2 * i + 1 : Nat) : Int) fr (z0 := ((2 * i : Nat) : Int) + 1) (by kernel_rfl) (by omega) (by omega) (by omega) ?_
 intro aC fr
 revert aC
 refine zpn 1 <| zfe <| zsq <| zsr <| zpn 4 ?_
 obtain ⟨B13, hB13⟩ : ∃ B : Bool, B = decide ((((2 * i + 1 : Nat) : Int) : Int) ≥ (n0 : Int)) := ⟨_, rfl⟩
 refine zkp [(0, (.iface 126 (pT g 1))), (1, (nV i0)), (2, (nV n0)), (7, (nV i)), (8, (.int .i64 ((2 * i + 1 : Nat) : Int))), (18, (.bool (decide ((((2 * i + 1 : Nat) : Int) : Int) ≥ (n0 : Int)))))] ?_
 rw [← hB13]
 have iB13 : B13 = true ↔ ((((2 * i + 1 : Nat) : Int) : Int) ≥ (n0 : Int)) := by rw [hB13]; simp only [decide_eq_true_eq]
 clear hB13
 intro aC fr
 refine zpk 3 7 [21] fr (news := [(21, (.bool (B13 || decide ((((2 * i + 1 : Nat) : Int) : Int) < 0))))]) (by cases B13 <;> kernel_rfl) ?_
 intro aC fr
 revert aC
 refine zfe <| zcP (B13 || decide ((((2 * i + 1 : Nat) : Int) : Int) < 0)) (((((2 * i + 1 : Nat) : Int) : Int) ≥ (n0 : Int)) ∨ ((((2 * i + 1 : Nat) : Int) : Int) < 0)) (by simp only [Bool.or_eq_true, decide_eq_true_eq, iB13]) (fun c18 => ?_) (fun c18 => ?_)
 refine zex 0 <| zbm <| zbh <| zsp <| zre <| zo1 (.bool (decide (((i : Int) : Int) > (i0 : Int)))) ?_
 have M19 : Mem ((Res.blk g 70 [pl, .slice A len c, nx]).and (Res.row 3 1 A len c (ints l))).fp w w3 [.blk g 70 [pl, (.slice A len c), nx], .row 3 1 A len c (ints (dnL F0 l i0 n0))] := M4.cast (by rw [← hdn, dnL_stop2 (by first | exact .inl (by omega) | exact .inr (by rw [← hjj]; assumption))])
 exact ⟨_, rfl, M19⟩
 refine zsk <| zsp <| zsq <| zsr <| zpn 1 ?_
 intro aC fr
 refine From_ar (some 24) ((2 * i + 1 + 1 : Nat) : Int) fr (z0 := ((2 * i + 1 : Nat) : Int) + 1) (by kernel_rfl) (by omega) (by omega) (by omega) ?_
 intro aC fr
 revert aC
 refine zpn 1 <| zfe ?_
 intro aC fr
 refine W_cut (fun a_ w_ => ∃ (jj : Nat), Fr a_ 48 [(0, (.iface 126 (pT g 1))), (1, (nV i0)), (2, (nV n0)), (7, (nV i)), (9, (nV jj))] ∧ Mem ((Res.blk g 70 [pl, .slice A len c, nx]).and (Res.row 3 1 A len c (ints l))).fp w w_ [.blk g 70 [pl, (.slice A len c), nx], .row 3 1 A len c (ints m)] ∧ (jj < n0) ∧ (jj = (dnJ m (2 * i + 1) n0))) ?_ ?_
 clear fr aC M4; rintro aC w26 ⟨jj, fr, M27, hjl, hjj⟩
 revert aC
 refine zsq <| zsr ?_
 have hjg : i < jj := by have := dnJ_ge (l := m) (j := 2 * i + 1) (n := n0); omega
 refine zpn 3 ?_
 refine zci (rv := (.iface 126 (pT g 1))) (nm := "Less") (vs := [(nV jj), (nV i)]) (fLess_c m A len c jj i w26 hm (by omega) (by omega) (RO.of (row_rd (M27.get 1 rfl)))) ?_ (mLess _ _ _ _ _ (blk_cell (M27.get 0 rfl) rfl))
 rintro _ w30 ⟨rfl, M31x⟩
 have M31 := M27.cl M31x
 refine zpn 1 <| zfe <| zcP (!(decide (m.getD jj 0 < m.getD i 0))) (¬ (m.getD jj 0 < m.getD i 0)) (by simp only [notT, decide_eq_true_eq]) (fun c32 => ?_) (fun c32 => ?_)
 refine zex 0 <| zbm <| zbh <| zsp <| zre <| zo1 (.bool (decide (((i : Int) : Int) > (i0 : Int)))) ?_
 have M33 : Mem ((Res.blk g 70 [pl, .slice A len c, nx]).and (Res.row 3 1 A len c (ints l))).fp w w30 [.blk g 70 [pl, (.slice A len c), nx], .row 3 1 A len c (ints (dnL F0 l i0 n0))] := M31.cast (by rw [← hdn, dnL_stop2 (by first | exact .inl (by omega) | exact .inr (by rw [← hjj]; assumption))])
 exact ⟨_, rfl, M33⟩
 refine zsk <| zsr ?_
 obtain ⟨f0, rfl⟩ : ∃ f0, f = f0 + 1 := ⟨f - 1, by omega⟩
 refine zpn 3 ?_
 refine zci (rv := (.iface 126 (pT g 1))) (nm := "Swap") (vs := [(nV i), (nV jj)]) (fSwap_c m A len c i jj w30 hm (by omega) (by omega) (M31.get 1 rfl)) ?_ (mSwap _ _ _ _ _ (blk_cell (M31.get 0 rfl) rfl))
 rintro _ w34 ⟨rfl, M35x⟩
 have M35 := M31.md 1 rfl M35x
 refine zfe <| zrp ?_
 intro aC fr
 exact ⟨2 * f0, by omega, f0, jj, (swL m i jj), rfl, fr.kp [0, 1, 2, 7], M35, by omega, by omega, by rw [swL_len]; exact hm, by rw [← hdn, hjj]; exact (dnL_go (by omega) (by rw [← hjj]; first | assumption | exact Classical.not_not.1 (by assumption))).symm⟩
 revert aC
 refine zsr <| zpn 4 ?_
 obtain ⟨B38, hB38⟩ : ∃ B : Bool, B = decide ((((2 * i + 1 + 1 : Nat) : Int) : Int) < (n0 : Int)) := ⟨_, rfl⟩
 refine zkp [(0, (.iface 126 (pT g 1))), (1, (nV i0)), (2, (nV n0)), (7, (nV i)), (8, (.int .i64 ((2 * i + 1 : Nat) : Int))), (9, (.int .i64 ((2 * i + 1 : Nat) : Int))), (10, (.int .i64 ((2 * i + 1 + 1 : Nat) : Int))), (28, (.bool (decide ((((2 * i + 1 + 1 : Nat) : Int) : Int) < (n0 : Int)))))] ?_
 rw [← hB38]
 have iB38 : B38 = true ↔ ((((2 * i + 1 + 1 : Nat) : Int) : Int) < (n0 : Int)) := by rw [hB38]; simp only [decide_eq_true_eq]
 clear hB38
 intro aC fr
 refine zpk 3 7 [29, 30, 31] fr (news := [(29, (cond B38 (.iface 126 (pT g 1)) undef)), (30, (cond B38 (.int .i64 ((2 * i + 1 + 1 : Nat) : Int)) undef)), (31, (cond B38 (.int .i64 ((2 * i + 1 : Nat) : Int)) undef))]) (by cases B38 <;> kernel_rfl) ?_
 intro aC fr
 cases B38
 have c38 : ¬ ((((2 * i + 1 + 1 : Nat) : Int) : Int) < (n0 : Int)) := (fun h => Bool.noConfusion (iB38.2 h) : ¬ ((((2 * i + 1 + 1 : Nat) : Int) : Int) < (n0 : Int)))
 revert aC
 refine zpn 2 <| zfe <| zcF <| zsk ?_
 intro aC fr
 exact ⟨2 * i + 1, fr.kp [0, 1, 2, 7, 9], M4, by omega, by unfold dnJ; first | (rw [if_pos ⟨by omega, by assumption⟩]) | (rw [if_neg (fun h => by have h1 := h.1; have h2 := h.2; first | omega | contradiction)])⟩
 have c38 : ((((2 * i + 1 + 1 : Nat) : Int) : Int) < (n0 : Int)) := iB38.1 rfl
 revert aC
 refine zci (rv := (.iface 126 (pT g 1))) (nm := "Less") (vs := [(.int .i64 ((2 * i + 1 + 1 : Nat) : Int)), (.int .i64 ((2 * i + 1 : Nat) : Int))]) (fLess_c m A len c (2 * i + 1 + 1) (2 * i + 1) w3 hm (by omega) (by omega) (RO.of (row_rd (M4.get 1 rfl)))) ?_ (mLess _ _ _ _ _ (blk_cell (M4.get 0 rfl) rfl))
 rintro _ w45 ⟨rfl, M46x⟩
 have M46 := M4.cl M46x
 refine zpn 1 <| zfe <| zcD (m.getD (2 * i + 1 + 1) 0 < m.getD (2 * i + 1) 0) (fun c47 => ?_) (fun c47 => ?_)
 refine zrp ?_
 intro aC fr
 exact ⟨2 * i + 1 + 1, fr.kp [0, 1, 2, 7, 9], M46, by omega, by unfold dnJ; first | (rw [if_pos ⟨by omega, by assumption⟩]) | (rw [if_neg (fun h => by have h1 := h.1; have h2 := h.2; first | omega | contradiction)])⟩
 refine zsk ?_
 intro aC fr
 exact ⟨2 * i + 1, fr.kp [0, 1, 2, 7, 9], M46, by omega, by unfold dnJ; first | (rw [if_pos ⟨by omega, by assumption⟩]) | (rw [if_neg (fun h => by have h1 := h.1; have h2 := h.2; first | omega | contradiction)])⟩
end Go.Proofs.YthgbejihcchcnaaDoor
namespace Go.Proofs.YthgbejihcchcnaaDoor
open Go.Mor
theorem push_c (g : Nat) (pl nx : Value) (l : List Int) (A : Option Addr) (c : Nat) (x : Int) (w : World) (hll : l.length ≤ 900000) (hb : (Res.blk g 70 [pl, .slice A l.length c, nx]).holds w) (hr : (Res.row 3 1 A l.length c (ints l)).holds w) (hfar : ∀ k, (Res.blk g 70 [pl, .slice A l.length c, nx]).fp k → ¬ (Res.row 3 1 A l.length c (ints l)).fp k) :
    Calls Tryd.prog 87 #[(.iface 126 (pT g 1)), (.iface 3 (.int .i64 x))] w (Ret fun v w' => ∃ A' c', v = .tuple #[] ∧ Mem ((Res.blk g 70 [pl, .slice A l.length c, nx]).and (Res.row 3 1 A l.length c (ints l))).fp w w' [.blk g 70 [pl, .slice A' (l.length + 1) c', nx], .row 3 1 A' (l.length + 1) c' (ints (qPush l x))]) := by
 refine zen 12 [(.iface 126 (pT g 1)), (.iface 3 (.int .i64 x))] Tryd.func87 ?_
 have hM := Mem.init2 hb hr hfar
 refine zsr <| zpn 2 ?_
 refine zci (rv := (.iface 126 (pT g 1))) (nm := "Push") (vs := [(.iface 3 (.int .i64 x))]) (fPush_c g pl nx l A c x w (hM.get 0 rfl) (hM.get 1 rfl) (hM.far (i := 0) (j := 1) rfl rfl (by decide)) (by omega)) ?_ (mPush _ _ _)
 rintro _ w3 ⟨A1, c2, rfl, M4x⟩
 have M4 := hM.md2 M4x
 clear M4x hM
 refine zfe <| zrg <| zpn 2 ?_
 refine zci (rv := (.iface 126 (pT g 1))) (nm := "Len") (vs := []) (fLen_c A1 (l.length + 1) c2 w3) ?_ (mLen _ _ _ (blk_cell (M4.get 0 rfl) rfl))
 rintro _ w5 ⟨rfl, M6x⟩
 have M6 := M4.cl M6x
 intro aC fr
 refine From_ar (some 10) ((l.length : Nat) : Int) fr (z0 := (((l.length + 1) : Nat) : Int) - 1) (by kernel_rfl) (by omega) (by omega) (by omega) ?_
 intro aC fr
 revert aC
 refine zcl (up_c g pl nx (l ++ [x]) A1 (l.length + 1) c2 l.length w5 (by omega) (by simp) (M6.get 0 rfl) (M6.get 1 rfl) (M6.far (i := 0) (j := 1) rfl rfl (by decide)) (by omega)) ?_
 rintro _ w11 ⟨rfl, M12x⟩
 have M12 := M6.md2 M12x
 refine zfe <| zo0 ?_
 exact ⟨_, _, rfl, M12⟩
theorem pop_c (g : Nat) (pl nx : Value) (l : List Int) (A : Option Addr) (c : Nat) (w : World) (h0 : 0 < l.length) (hll : l.length ≤ 900000) (hb : (Res.blk g 70 [pl, .slice A l.length c, nx]).holds w) (hr : (Res.row 3 1 A l.length c (ints l)).holds w) (hfar : ∀ k, (Res.blk g 70 [pl, .slice A l.length c, nx]).fp k → ¬ (Res.row 3 1 A l.length c (ints l)).fp k) :
    Calls Tryd.prog 86 #[(.iface 126 (pT g 1))] w (Ret fun v w' => v = .iface 3 (.int .i64 (qTop l)) ∧ Mem ((Res.blk g 70 [pl, .slice A l.length c, nx]).and (Res.row 3 1 A l.length c (ints l))).fp w w' [.blk g 70 [pl, .slice A (l.length - 1) c, nx], .row 3 1 A (l.length - 1) c (ints (qPop l))]) := by
 refine zen 15 [(.iface 126 (pT g 1))] Tryd.func86 ?_
 have hM := Mem.init2 hb hr hfar
 refine zsp <| zsr <| zpn 1 ?_
 refine zci (rv := (.iface 126 (pT g 1))) (nm := "Len") (vs := []) (fLen_c A l.length c w) ?_ (mLen _ _ _ (blk_cell (hM.get 0 rfl) rfl))
 rintro _ w1 ⟨rfl, M2x⟩
 have M2 := hM.cl M2x
 clear M2x hM
 intro aC fr
 refine From_ar (some 6) ((l.length - 1 : Nat) : Int) fr (z0 := ((l.length : Nat) : Int) - 1) (by kernel_rfl) (by omega) (by omega) (by omega) ?_
 intro aC fr
 revert aC
 refine zpn 1 <| zfe <| zsr <| zpn 2 ?_
 refine zci (rv := (.iface 126 (pT g 1))) (nm := "Swap") (vs := [(.int .i64 0), (.int .i64 ((l.length - 1 : Nat) : Int))]) (fSwap_c l A l.length c 0 (l.length - 1) w1 rfl (by omega) (by omega) (M2.get 1 rfl)) ?_ (mSwap _ _ _ _ _ (blk_cell (M2.get 0 rfl) rfl))
 rintro _ w7 ⟨rfl, M8x⟩
 have M8 := M2.md 1 rfl M8x
 refine zfe <| zsr <| zpn 2 <| zcl (down_c g pl nx (swL l 0 (l.length - 1)) A l.length c l.length 0 (l.length - 1) w7 (by omega) (by omega) (by omega) swL_len (M8.get 0 rfl) (M8.get 1 rfl) (M8.far (i := 0) (j := 1) rfl rfl (by decide)) (by omega)) ?_
 rintro _ w10 ⟨bb9, rfl, M11x⟩
 have M11 := M8.md2 M11x
 refine zfe <| zsr ?_
 have hsl : (qSink l).length = l.length := qSink_len l
 have M12 : Mem ((Res.blk g 70 [pl, .slice A l.length c, nx]).and (Res.row 3 1 A l.length c (ints l))).fp w w10 [.blk g 70 [pl, (.slice A ((qSink l).length) c), nx], .row 3 1 A ((qSink l).length) c (ints (qSink l))] := M11.cast (by rw [qSink_len]; rfl)
 refine zpn 1 ?_
 refine zci (rv := (.iface 126 (pT g 1))) (nm := "Pop") (vs := []) (fPop_c g pl nx (qSink l) A c w10 (by omega) (M12.get 0 rfl) (M12.get 1 rfl) (M12.far (i := 0) (j := 1) rfl rfl (by decide)) (by omega)) ?_ (mPop _ _)
 rintro _ w13 ⟨rfl, M14x⟩
 have M14 := M12.md2 M14x
 refine zpn 1 <| zfe <| zre <| zo1 (.iface 3 (.int .i64 ((qSink l).getD ((qSink l).length - 1) 0))) ?_
 refine ⟨by rw [qTop, hsl], ?_⟩
 exact M14.cast (by simp only [hsl, qPop])
end Go.Proofs.YthgbejihcchcnaaDoor
namespace Go.Mor
open Go.RowKit
structure GSt where
  pl : List Int
  fr : List Int
  nx : Int
def giveS (s : GSt) (v : Nat) : GSt := if 0 < s.fr.length then ⟨s.pl.set v (qTop s.fr), qPop s.fr, s.nx⟩ else ⟨s.pl.set v s.nx, s.fr, s.nx + 1⟩
def backS (s : GSt) (v : Nat) : GSt := ⟨s.pl, qPush s.fr (s.pl.getD v 0), s.nx⟩
theorem giveS_pop {s : GSt} {v : Nat} (h : 0 < s.fr.length) : giveS s v = ⟨s.pl.set v (qTop s.fr), qPop s.fr, s.nx⟩ := by unfold giveS; rw [if_pos h]
theorem giveS_new {s : GSt} {v : Nat} (h : ¬ 0 < s.fr.length) : giveS s v = ⟨s.pl.set v s.nx, s.fr, s.nx + 1⟩ := by unfold giveS; rw [if_neg h]
theorem giveS_plen {s : GSt} {v : Nat} : (giveS s v).pl.length = s.pl.length := by unfold giveS; split <;> simp
end Go.Mor
namespace Go.Proofs.YthgbejihcchcnaaDoor
open Go.Mor Go.RowKit
abbrev gvL (g : Nat) (PA : Option Addr) (pc : Nat) (A : Option Addr) (c : Nat) (s : GSt) : List Res :=
  [.blk g 70 [.slice PA s.pl.length pc, .slice A s.fr.length c, .int .i64 s.nx], .row 3 1 A s.fr.length c (ints s.fr), .row 3 1 PA s.pl.length pc (ints s.pl)]
end Go.Proofs.YthgbejihcchcnaaDoor
namespace Go.Mor
open Go.RowKit
def vM (l : List (Int × Int)) : List (Int × Value) := l.map (fun p => (p.1, .int .i64 p.2))
theorem lkp_vM (l : List (Int × Int)) (s : Int) : lkp (vM l) s = (lkp l s).map (Value.int .i64) := by
  induction l with
  | nil => rfl
  | cons x r ih =>
    obtain ⟨k, v⟩ := x
    show lkp ((k, Value.int .i64 v) :: vM r) s = _
    unfold lkp
    cases s == k with
    | true => rfl
    | false => exact ih
theorem upk_vM (l : List (Int × Int)) (s v : Int) : upk (vM l) s (.int .i64 v) = vM (upk l s v) := by
  induction l with
  | nil => rfl
  | cons x r ih =>
    obtain ⟨k, u⟩ := x
    show upk ((k, Value.int .i64 u) :: vM r) s _ = _
    unfold upk
    cases s == k with
    | true => rfl
    | false => show _ :: upk (vM r) s _ = _; rw [ih]; rfl
theorem lkM0 (l : List (Int × Int)) (s : Int) : lkV false (lkp (vM l) s) (.int .i64 0) = .int .i64 ((lkp l s).getD 0) := by
  rw [lkp_vM]; unfold lkV; cases lkp l s <;> rfl
theorem lkM1 (l : List (Int × Int)) (s : Int) : lkV true (lkp (vM l) s) (.int .i64 0) = .tuple #[.int .i64 ((lkp l s).getD 0), .bool (lkp l s).isSome] := by
  rw [lkp_vM]; unfold lkV; cases lkp l s <;> rfl
theorem lkp_upk (l : List (Int × Int)) (s v t : Int) : lkp (upk l s v) t = if t = s then some v else lkp l t := by
  induction l with
  | nil =>
    unfold upk lkp
    by_cases h : t = s
    · subst h; simp
    · have : (t == s) = false := by simpa using h
      rw [this, if_neg h]; rfl
  | cons x r ih =>
    obtain ⟨k, u⟩ := x
    unfold upk
    cases hk : s == k with
    | true =>
      have e : s = k := by simpa using hk
      subst e
      simp only [lkp]
      cases ht : t == s with
      | true => rw [if_pos (by simpa using ht)]
      | false => rw [if_neg (by simpa using ht)]
    | false =>
      simp only [lkp]
      cases ht : t == k with
      | true =>
        have e : t = k := by simpa using ht
        subst e
        have : ¬ t = s := fun e => by rw [e] at hk; simp at hk
        rw [if_neg this]
      | false => exact ih
def seeM (l : List (Int × Int)) (v : Int) : List (Int × Int) := if (lkp l v).isSome = true then l else upk l v (-1)
theorem seeM_had {l : List (Int × Int)} {v : Int} (h : (lkp l v).isSome = true) : seeM l v = l := by unfold seeM; rw [if_pos h]
theorem seeM_new {l : List (Int × Int)} {v : Int} (h : ¬ (lkp l v).isSome = true) : seeM l v = upk l v (-1) := by unfold seeM; rw [if_neg h]
def putM (l : List (Int × Int)) (vs : List Int) (i : Int) : List (Int × Int) := vs.foldl (fun l v => upk l v i) l
theorem putM_next {l : List (Int × Int)} {vs : List Int} {i : Int} {j : Nat} {v : Int} (h : vs[j]? = some v) : putM l (vs.take (j + 1)) i = upk (putM l (vs.take j) i) v i := by
  unfold putM
  rw [takeS_snoc h, List.foldl_append]
  rfl
instance (x : FBlk) : Decidable (finS x) := by unfold finS; exact inferInstance
noncomputable def endM (l : List (Int × Int)) (x : FBlk) (n : Nat) (S : Int → Bool) : List (Int × Int) := if finS x then upk (putM l (listS n S) (x.insts.length : Int)) x.v (x.insts.length : Int) else putM l (listS n S) (x.insts.length : Int)
theorem endM_fin {l : List (Int × Int)} {x : FBlk} {n : Nat} {S : Int → Bool} (h : finS x) : endM l x n S = upk (putM l (listS n S) (x.insts.length : Int)) x.v (x.insts.length : Int) := by unfold endM; rw [if_pos h]
theorem endM_no {l : List (Int × Int)} {x : FBlk} {n : Nat} {S : Int → Bool} (h : ¬ finS x) : endM l x n S = putM l (listS n S) (x.insts.length : Int) := by unfold endM; rw [if_neg h]
def dstM (l : List (Int × Int)) (d : Int) : List (Int × Int) := if 0 ≤ d then seeM l d else l
def insM : List (Int × Int) → List FIns → Nat → List (Int × Int)
  | l, _, 0 => l
  | l, is, j + 1 => match is[j]? with
    | some p => dstM (putM (insM l is j) p.args (j : Int)) p.dst
    | none => insM l is j
theorem insM_next {l : List (Int × Int)} {is : List FIns} {j : Nat} {p : FIns} (h : is[j]? = some p) : insM l is (j + 1) = dstM (putM (insM l is j) p.args (j : Int)) p.dst := by
  show (match is[j]? with | some p => _ | none => _) = _
  rw [h]
def phM (l : List (Int × Int)) (ps : List FPhi) : List (Int × Int) := ps.foldl (fun l p => seeM l p.dst) l
theorem phM_next {l : List (Int × Int)} {ps : List FPhi} {j : Nat} {p : FPhi} (h : ps[j]? = some p) : phM l (ps.take (j + 1)) = seeM (phM l (ps.take j)) p.dst := by
  unfold phM
  rw [takeS_snoc h, List.foldl_append]
  rfl
noncomputable def readM (x : FBlk) (n : Nat) (S : Int → Bool) : List (Int × Int) := endM (phM (insM [] x.insts x.insts.length) x.phis) x n S
end Go.Mor
namespace Go.Mor
open Go.RowKit
def hadM (pl : List Int) (vs : List Int) : List (Int × Int) := vs.foldl (fun l v => upk l (pl.getD v.toNat 0) ((lkp l (pl.getD v.toNat 0)).getD 0 + 1)) []
def nxM (pl : List Int) (vs : List Int) : Int := vs.foldl (fun n v => max n (pl.getD v.toNat 0 + 1)) 0
def freeTo (h : List (Int × Int)) (k : Nat) : List Int := ((List.range k).filter (fun p : Nat => (lkp h (p : Int)).getD 0 == 0)).map (fun p : Nat => (p : Int))
def beginS (s : GSt) (vs : List Int) : GSt := ⟨s.pl, freeTo (hadM s.pl vs) (nxM s.pl vs).toNat, nxM s.pl vs⟩
section
variable {pl vs : List Int} {j : Nat} {v : Int}
theorem hadM_next (h : vs[j]? = some v) : hadM pl (vs.take (j + 1)) = upk (hadM pl (vs.take j)) (pl.getD v.toNat 0) ((lkp (hadM pl (vs.take j)) (pl.getD v.toNat 0)).getD 0 + 1) := by
  unfold hadM
  rw [takeS_snoc h, List.foldl_append]
  rfl
theorem nxM_next (h : vs[j]? = some v) : nxM pl (vs.take (j + 1)) = max (nxM pl (vs.take j)) (pl.getD v.toNat 0 + 1) := by
  unfold nxM
  rw [takeS_snoc h, List.foldl_append]
  rfl
theorem hadM_le (p : Int) : 0 ≤ (lkp (hadM pl vs) p).getD 0 ∧ (lkp (hadM pl vs) p).getD 0 ≤ (vs.length : Int) := by
  have key : ∀ (vs : List Int) (l : List (Int × Int)) (n : Nat), (∀ p, 0 ≤ (lkp l p).getD 0 ∧ (lkp l p).getD 0 ≤ (n : Int)) →
      ∀ p, 0 ≤ (lkp (vs.foldl (fun l v => upk l (pl.getD v.toNat 0) ((lkp l (pl.getD v.toNat 0)).getD 0 + 1)) l) p).getD 0 ∧ (lkp (vs.foldl (fun l v => upk l (pl.getD v.toNat 0) ((lkp l (pl.getD v.toNat 0)).getD 0 + 1)) l) p).getD 0 ≤ ((n + vs.length : Nat) : Int) := by
    intro vs
    induction vs with
    | nil => intro l n h p; simpa using h p
    | cons v vs ih =>
      intro l n h p
      have h2 := ih (upk l (pl.getD v.toNat 0) ((lkp l (pl.getD v.toNat 0)).getD 0 + 1)) (n + 1) (fun q => ?_) p
      · rw [List.length_cons, show n + (vs.length + 1) = n + 1 + vs.length by omega]; exact h2
      · rw [lkp_upk]
        have h3 := h (pl.getD v.toNat 0)
        have h4 := h q
        split
        · simp only [Option.getD_some]; omega
        · omega
  have h := key vs [] 0 (fun q => by simp [lkp]) p
  rw [Nat.zero_add] at h
  exact h
theorem nxM_ge : 0 ≤ nxM pl vs := by
  have key : ∀ (vs : List Int) (n : Int), 0 ≤ n → 0 ≤ vs.foldl (fun n v => max n (pl.getD v.toNat 0 + 1)) n := by
    intro vs
    induction vs with
    | nil => intro n h; exact h
    | cons v vs ih => intro n h; exact ih _ (show 0 ≤ max n (pl.getD v.toNat 0 + 1) by omega)
  exact key vs 0 (by omega)
theorem nxM_le {K : Int} (hK : 1 ≤ K) (h : ∀ x, x ∈ pl → x < K) : nxM pl vs ≤ K := by
  have h0 : ∀ i : Nat, pl.getD i 0 + 1 ≤ K := by
    intro i
    by_cases hi : i < pl.length
    · have h1 : pl.getD i 0 = pl[i] := by simp [List.getD, hi]
      have h2 := h pl[i] (List.getElem_mem hi)
      rw [h1]; omega
    · have : pl.getD i 0 = 0 := by simp [List.getD, List.getElem?_eq_none (Nat.le_of_not_lt hi)]
      omega
  have key : ∀ (vs : List Int) (n : Int), n ≤ K → vs.foldl (fun n v => max n (pl.getD v.toNat 0 + 1)) n ≤ K := by
    intro vs
    induction vs with
    | nil => intro n h; exact h
    | cons v vs ih => intro n h; exact ih _ (show max n (pl.getD v.toNat 0 + 1) ≤ K by have := h0 v.toNat; omega)
  exact key vs 0 (by omega)
theorem freeTo_next (h : List (Int × Int)) (k : Nat) : freeTo h (k + 1) = if (lkp h (k : Int)).getD 0 = 0 then freeTo h k ++ [(k : Int)] else freeTo h k := by
  unfold freeTo
  rw [List.range_succ, List.filter_append, List.map_append]
  by_cases e : (lkp h (k : Int)).getD 0 = 0
  · rw [if_pos e]; simp [e]
  · rw [if_neg e]; simp [e]
theorem freeTo_len (h : List (Int × Int)) (k : Nat) : (freeTo h k).length ≤ k := by
  unfold freeTo
  rw [List.length_map]
  exact Nat.le_trans (List.length_filter_le _ _) (by simp)
end
end Go.Mor
namespace Go.Mor
open Go.RowKit
theorem upL_perm {f : Nat} {l : List Int} {j : Nat} (hj : j < l.length) : (upL f l j).Perm l := by
  induction f generalizing l j with
  | zero => exact List.Perm.refl _
  | succ f ih =>
    unfold upL
    split
    · exact List.Perm.refl _
    · exact (ih (by rw [swL_len]; omega)).trans (swL_perm (by omega) hj)
theorem dnL_perm {f : Nat} {l : List Int} {i n : Nat} (hi : i < l.length) (hn : n ≤ l.length) : (dnL f l i n).Perm l := by
  induction f generalizing l i with
  | zero => exact List.Perm.refl _
  | succ f ih =>
    unfold dnL
    split
    · exact List.Perm.refl _
    · rename_i h
      have h1 : 2 * i + 1 < n := Nat.lt_of_not_le (fun h2 => h (.inl h2))
      have h2 := dnJ_le (l := l) h1
      exact (ih (by rw [swL_len]; omega) (by rw [swL_len]; omega)).trans (swL_perm hi (by omega))
theorem qPush_perm (l : List Int) (v : Int) : (qPush l v).Perm (l ++ [v]) := upL_perm (by simp)
theorem qSink_perm {l : List Int} (h : 0 < l.length) : (qSink l).Perm l :=
  (dnL_perm (by rw [swL_len]; exact h) (by rw [swL_len]; omega)).trans (swL_perm h (by omega))
theorem qPop_perm {l : List Int} (h : 0 < l.length) : (qPop l ++ [qTop l]).Perm l := by
  have h1 := qSink_len l
  have e : qPop l ++ [qTop l] = qSink l := by
    unfold qPop qTop
    have h2 : l.length - 1 < (qSink l).length := by omega
    have h3 : (qSink l).getD (l.length - 1) 0 = (qSink l)[l.length - 1] := by simp [List.getD, h2]
    rw [h3, ← List.take_succ_eq_append_getElem h2]
    exact List.take_of_length_le (by omega)
  rw [e]
  exact qSink_perm h
structure GB (n : Nat) (s : GSt) (K : Nat) : Prop where
  len : s.pl.length = n
  nx0 : 0 ≤ s.nx
  nxK : s.nx ≤ (K : Int)
  frl : s.fr.length ≤ K
  pls : ∀ x, x ∈ s.pl → 0 ≤ x ∧ x < (K : Int)
  frs : ∀ x, x ∈ s.fr → 0 ≤ x ∧ x < (K : Int)
section
variable {n K : Nat} {s : GSt}
theorem GB.mono (h : GB n s K) {K' : Nat} (hk : K ≤ K') : GB n s K' :=
  ⟨h.len, h.nx0, by have := h.nxK; omega, by have := h.frl; omega, fun x hx => by have := h.pls x hx; omega, fun x hx => by have := h.frs x hx; omega⟩
theorem GB.give (h : GB n s K) (v : Nat) : GB n (giveS s v) (K + 1) := by
  unfold giveS
  split
  · rename_i h0
    have hp := qPop_perm h0
    have hm : ∀ x, x ∈ qPop s.fr ++ [qTop s.fr] → 0 ≤ x ∧ x < (K : Int) := fun x hx => h.frs x (hp.mem_iff.1 hx)
    refine ⟨by simp [h.len], h.nx0, by have := h.nxK; show s.nx ≤ _; omega, ?_, fun x hx => ?_, fun x hx => ?_⟩
    · show (qPop s.fr).length ≤ _; rw [qPop_len]; have := h.frl; omega
    · rcases List.mem_or_eq_of_mem_set hx with h1 | h1
      · have := h.pls x h1; omega
      · rw [h1]; have := hm (qTop s.fr) (by simp); omega
    · have := hm x (List.mem_append_left _ hx); omega
  · refine ⟨by simp [h.len], by have := h.nx0; show 0 ≤ s.nx + 1; omega, by have := h.nxK; show s.nx + 1 ≤ _; omega, by have := h.frl; show s.fr.length ≤ _; omega, fun x hx => ?_, fun x hx => by have := h.frs x hx; omega⟩
    rcases List.mem_or_eq_of_mem_set hx with h1 | h1
    · have := h.pls x h1; omega
    · rw [h1]; have := h.nx0; have := h.nxK; omega
theorem GB.back (h : GB n s K) {v : Nat} (hv : v < n) : GB n (backS s v) (K + 1) := by
  have hv' : v < s.pl.length := by rw [h.len]; exact hv
  have e : s.pl.getD v 0 = s.pl[v] := by simp [List.getD, hv']
  refine ⟨h.len, h.nx0, by have := h.nxK; show s.nx ≤ _; omega, ?_, fun x hx => by have := h.pls x hx; omega, fun x hx => ?_⟩
  · show (qPush s.fr _).length ≤ _; rw [qPush_len]; have := h.frl; omega
  · have h1 := (qPush_perm s.fr (s.pl.getD v 0)).mem_iff.1 hx
    rcases List.mem_append.1 h1 with h2 | h2
    · have := h.frs x h2; omega
    · rw [List.mem_singleton] at h2
      rw [h2, e]
      have := h.pls s.pl[v] (List.getElem_mem hv')
      omega
theorem freeTo_mem {h : List (Int × Int)} {k : Nat} {x : Int} (hx : x ∈ freeTo h k) : 0 ≤ x ∧ x < (k : Int) := by
  unfold freeTo at hx
  obtain ⟨i, hi, rfl⟩ := List.mem_map.1 hx
  have := List.mem_range.1 (List.mem_filter.1 hi).1
  omega
theorem GB.begin (h : GB n s K) (hK : 1 ≤ K) (vs : List Int) : GB n (beginS s vs) K := by
  have h0 := nxM_ge (pl := s.pl) (vs := vs)
  have h1 := nxM_le (pl := s.pl) (vs := vs) (K := (K : Int)) (by omega) (fun x hx => (h.pls x hx).2)
  refine ⟨h.len, h0, h1, ?_, h.pls, fun x hx => ?_⟩
  · have := freeTo_len (hadM s.pl vs) (nxM s.pl vs).toNat
    show (freeTo _ _).length ≤ _
    omega
  · have := freeTo_mem hx; omega
end
def givesS (s : GSt) (l : List Int) : GSt := l.foldl (fun s v => giveS s v.toNat) s
theorem givesS_next {s : GSt} {l : List Int} {j : Nat} {v : Int} (h : l[j]? = some v) : givesS s (l.take (j + 1)) = giveS (givesS s (l.take j)) v.toNat := by
  unfold givesS; rw [takeS_snoc h, List.foldl_append]; rfl
def dropS (af : List (Int × Int)) (s : GSt) (v : Int) : GSt := if (lkp af v).isSome = true ∧ 0 ≤ (lkp af v).getD 0 then s else backS s v.toNat
def dropsS (af : List (Int × Int)) (s : GSt) (l : List Int) : GSt := l.foldl (dropS af) s
theorem dropsS_next {af : List (Int × Int)} {s : GSt} {l : List Int} {j : Nat} {v : Int} (h : l[j]? = some v) : dropsS af s (l.take (j + 1)) = dropS af (dropsS af s (l.take j)) v := by
  unfold dropsS; rw [takeS_snoc h, List.foldl_append]; rfl
def argS (af : List (Int × Int)) (i : Nat) (args : List Int) (s : GSt) (j : Nat) : GSt := match args[j]? with
  | some v => if (lkp af v).getD 0 = (i : Int) ∧ ¬ v ∈ args.take j then backS s v.toNat else s
  | none => s
def argsTo (af : List (Int × Int)) (i : Nat) (args : List Int) (s : GSt) : Nat → GSt
  | 0 => s
  | j + 1 => argS af i args (argsTo af i args s j) j
def dstS (af : List (Int × Int)) (i : Nat) (s : GSt) (d : Int) : GSt := if 0 ≤ d then (if (lkp af d).getD 0 ≤ (i : Int) then backS (giveS s d.toNat) d.toNat else giveS s d.toNat) else s
def insTo (af : List (Int × Int)) (is : List FIns) (s : GSt) : Nat → GSt
  | 0 => s
  | j + 1 => match is[j]? with
    | some p => dstS af j (argsTo af j p.args (insTo af is s j) p.args.length) p.dst
    | none => insTo af is s j
theorem argsTo_next {af : List (Int × Int)} {i : Nat} {args : List Int} {s : GSt} {j : Nat} {v : Int} (h : args[j]? = some v) :
    argsTo af i args s (j + 1) = if (lkp af v).getD 0 = (i : Int) ∧ ¬ v ∈ args.take j then backS (argsTo af i args s j) v.toNat else argsTo af i args s j := by
  show argS af i args (argsTo af i args s j) j = _
  unfold argS
  rw [h]
theorem insTo_next {af : List (Int × Int)} {is : List FIns} {s : GSt} {j : Nat} {p : FIns} (h : is[j]? = some p) :
    insTo af is s (j + 1) = dstS af j (argsTo af j p.args (insTo af is s j) p.args.length) p.dst := by
  show (match is[j]? with | some p => _ | none => _) = _
  rw [h]
def madeL (pa k : Nat) (x : FBlk) : List Int := (if k = 0 then (List.range pa).map (fun i : Nat => (i : Int)) else []) ++ x.phis.map (·.dst)
def blockG (af : List (Int × Int)) (ins : List Int) (pa k : Nat) (x : FBlk) (s : GSt) : GSt :=
  insTo af x.insts (dropsS af (givesS (beginS s ins) (madeL pa k x)) (madeL pa k x)) x.insts.length
def costA (is : List FIns) : Nat := (is.map (fun p => p.args.length + 2)).foldl (· + ·) 0
theorem costA_snoc {is : List FIns} {j : Nat} {p : FIns} (h : is[j]? = some p) : costA (is.take (j + 1)) = costA (is.take j) + (p.args.length + 2) := by
  unfold costA
  rw [takeS_snoc h, List.map_append, List.foldl_append]
  rfl
theorem costA_le {is : List FIns} : ∀ {j : Nat}, costA (is.take j) ≤ costA is := by
  intro j
  unfold costA
  have key : ∀ (l : List Nat) (a : Nat), a ≤ l.foldl (· + ·) a := by
    intro l
    induction l with
    | nil => intro a; exact Nat.le_refl _
    | cons b l ih => intro a; exact Nat.le_trans (Nat.le_add_right a b) (ih (a + b))
  conv => rhs; rw [← List.take_append_drop j is, List.map_append, List.foldl_append]
  exact key _ _
def costB (pa k : Nat) (x : FBlk) : Nat := 2 * (madeL pa k x).length + costA x.insts
end Go.Mor
namespace Go.Mor
open Go.RowKit
theorem madeL_in {n pn k : Nat} {x : FBlk} (hp : pn ≤ n) (hv : VR n x) : ∀ v, v ∈ madeL pn k x → 0 ≤ v ∧ v < (n : Int) := by
  intro v h
  unfold madeL at h
  rcases List.mem_append.1 h with h | h
  · split at h
    · obtain ⟨i, hi, rfl⟩ := List.mem_map.1 h
      have := List.mem_range.1 hi
      omega
    · cases h
  · obtain ⟨p, hpm, rfl⟩ := List.mem_map.1 h
    exact hv.phis p hpm
theorem listS_in {n : Nat} {S : Int → Bool} : ∀ v, v ∈ listS n S → 0 ≤ v ∧ v < (n : Int) := by
  intro v h
  unfold listS at h
  obtain ⟨i, hi, rfl⟩ := List.mem_map.1 h
  have := List.mem_range.1 (List.mem_filter.1 hi).1
  omega
theorem madeL_snoc {l : List FPhi} {q : Nat} {p : FPhi} (h : l[q]? = some p) (M : List Int) : M ++ (l.take (q + 1)).map (·.dst) = (M ++ (l.take q).map (·.dst)) ++ [p.dst] := by
  rw [takeS_snoc h, List.map_append, List.append_assoc]
  rfl
theorem range_snocI (u : Nat) : (List.range (u + 1)).map (fun i : Nat => (i : Int)) = (List.range u).map (fun i : Nat => (i : Int)) ++ [(u : Int)] := by
  rw [List.range_succ, List.map_append]; rfl
theorem madeL_len {pn k : Nat} {x : FBlk} : (madeL pn k x).length ≤ pn + x.phis.length := by
  unfold madeL
  rw [List.length_append, List.length_map]
  split <;> simp
theorem rd_takeV {w : World} {A : Option Addr} {l : List Value} {n : Nat} (h : (Res.rd A l).holds w) : (Res.rd A (l.take n)).holds w := by
  intro i v hi
  refine h i v ?_
  simp only [List.getElem?_take] at hi
  split at hi
  · exact hi
  · cases hi
end Go.Mor
namespace Go.Mor
open Go.RowKit
theorem sum_perm {l m : List Nat} (h : l.Perm m) : l.sum = m.sum := by
  induction h with
  | nil => rfl
  | cons x _ ih => simp [ih]
  | swap x y l => simp; omega
  | trans _ _ h1 h2 => rw [h1, h2]
theorem sum_nodup_le (f : Nat → Nat) : ∀ (m : Nat) (l : List Nat), l.Nodup → (∀ x, x ∈ l → x < m) → (l.map f).sum ≤ ((List.range m).map f).sum
  | 0, l, _, hx => by
    cases l with
    | nil => simp
    | cons a l => exact absurd (hx a (List.mem_cons_self ..)) (Nat.not_lt_zero _)
  | m + 1, l, hn, hx => by
    rw [List.range_succ, List.map_append, List.sum_append]
    by_cases h : m ∈ l
    · have hp := List.perm_cons_erase h
      have h1 := sum_nodup_le f m (l.erase m) (hn.erase m) (fun x hxe => by
        have h2 := hx x (List.mem_of_mem_erase hxe)
        have h3 : x ≠ m := fun e => by subst e; exact (hn.not_mem_erase) hxe
        omega)
      have h2 := sum_perm (hp.map f)
      rw [h2, List.map_cons, List.sum_cons]
      simp
      omega
    · have h1 := sum_nodup_le f m l hn (fun x hxl => by
        have h2 := hx x hxl
        have h3 : x ≠ m := fun e => by subst e; exact h hxl
        omega)
      simp
      omega
noncomputable def liI (fs : List FBlk) : Int → Int → Bool := fun b v => @decide (LV fs true b v) (Classical.propDecidable _)
noncomputable def liO (fs : List FBlk) : Int → Int → Bool := fun b v => @decide (LV fs false b v) (Classical.propDecidable _)
section
variable {n : Nat} {fs : List FBlk} {SI SO : Int → Int → Bool}
theorem LiveS.listI (h : LiveS n fs SI SO) {b : Nat} (hb : b < fs.length) : listS n (SI (b : Int)) = listS n (liI fs (b : Int)) :=
  listS_congr (fun i hi => by
    have h1 := (h b hb (i : Int) (by omega) (by omega)).1
    rw [Bool.eq_iff_iff, h1]
    exact (@decide_eq_true_iff _ (Classical.propDecidable _)).symm)
theorem LiveS.listO (h : LiveS n fs SI SO) {b : Nat} (hb : b < fs.length) : listS n (SO (b : Int)) = listS n (liO fs (b : Int)) :=
  listS_congr (fun i hi => by
    have h1 := (h b hb (i : Int) (by omega) (by omega)).2
    rw [Bool.eq_iff_iff, h1]
    exact (@decide_eq_true_iff _ (Classical.propDecidable _)).symm)
theorem endM_congr {l : List (Int × Int)} {x : FBlk} {S T : Int → Bool} (h : listS n S = listS n T) : endM l x n S = endM l x n T := by
  unfold endM; rw [h]
theorem readM_congr {x : FBlk} {S T : Int → Bool} (h : listS n S = listS n T) : readM x n S = readM x n T := endM_congr h
end
noncomputable def stepG (n pn : Nat) (fs : List FBlk) (s : GSt) (b : Int) : GSt := match fs[b.toNat]? with
  | some x => blockG (readM x n (liO fs b)) (if 0 < b.toNat then listS n (liI fs b) else []) pn b.toNat x s
  | none => s
noncomputable def givenS (n pn : Nat) (fs : List FBlk) : GSt := (orderL (bsOf fs)).foldl (stepG n pn fs) ⟨List.replicate n 0, [], 0⟩
noncomputable def givenTo (n pn : Nat) (fs : List FBlk) (j : Nat) : GSt := ((orderL (bsOf fs)).take j).foldl (stepG n pn fs) ⟨List.replicate n 0, [], 0⟩
theorem givenTo_next {n pn : Nat} {fs : List FBlk} {j : Nat} {b : Nat} {x : FBlk} (h : (orderL (bsOf fs))[j]? = some (b : Int)) (hx : fs[b]? = some x) :
    givenTo n pn fs (j + 1) = blockG (readM x n (liO fs (b : Int))) (if 0 < b then listS n (liI fs (b : Int)) else []) pn b x (givenTo n pn fs j) := by
  unfold givenTo
  rw [takeS_snoc h, List.foldl_append]
  show stepG n pn fs _ (b : Int) = _
  unfold stepG
  rw [Int.toNat_natCast, hx]
def frameM (k : Int) (pl : List Int) : List (Int × Int) := pl.foldl (fun l p => if k ≤ p then upk l p ((lkp l p).getD 0 + 1) else l) []
theorem frameM_yes {k : Int} {pl : List Int} {j : Nat} {p : Int} (h : pl[j]? = some p) (hk : k ≤ p) : frameM k (pl.take (j + 1)) = upk (frameM k (pl.take j)) p ((lkp (frameM k (pl.take j)) p).getD 0 + 1) := by
  unfold frameM
  rw [takeS_snoc h, List.foldl_append]
  show (if k ≤ p then _ else _) = _
  rw [if_pos hk]
theorem frameM_no {k : Int} {pl : List Int} {j : Nat} {p : Int} (h : pl[j]? = some p) (hk : ¬ k ≤ p) : frameM k (pl.take (j + 1)) = frameM k (pl.take j) := by
  unfold frameM
  rw [takeS_snoc h, List.foldl_append]
  show (if k ≤ p then _ else _) = _
  rw [if_neg hk]
theorem frameM_le {k : Int} {pl : List Int} (p : Int) : 0 ≤ (lkp (frameM k pl) p).getD 0 ∧ (lkp (frameM k pl) p).getD 0 ≤ (pl.length : Int) := by
  have key : ∀ (pl : List Int) (l : List (Int × Int)) (n : Nat), (∀ q, 0 ≤ (lkp l q).getD 0 ∧ (lkp l q).getD 0 ≤ (n : Int)) →
      ∀ q, 0 ≤ (lkp (pl.foldl (fun l p => if k ≤ p then upk l p ((lkp l p).getD 0 + 1) else l) l) q).getD 0 ∧ (lkp (pl.foldl (fun l p => if k ≤ p then upk l p ((lkp l p).getD 0 + 1) else l) l) q).getD 0 ≤ ((n + pl.length : Nat) : Int) := by
    intro pl
    induction pl with
    | nil => intro l n h q; simpa using h q
    | cons v pl ih =>
      intro l n h q
      rw [List.length_cons, show n + (pl.length + 1) = n + 1 + pl.length by omega]
      refine ih _ (n + 1) (fun r => ?_) q
      show 0 ≤ (lkp (if k ≤ v then upk l v ((lkp l v).getD 0 + 1) else l) r).getD 0 ∧ (lkp (if k ≤ v then upk l v ((lkp l v).getD 0 + 1) else l) r).getD 0 ≤ ((n + 1 : Nat) : Int)
      have h3 := h v
      have h4 := h r
      split
      · rw [lkp_upk]
        split
        · simp only [Option.getD_some]; omega
        · omega
      · omega
  have h := key pl [] 0 (fun q => by simp [lkp]) p
  rw [Nat.zero_add] at h
  exact h
noncomputable def allocN (nm : ByteArray) (pa va : Int) (fs : List FBlk) (k : Int) : List Int × Int × Int :=
  if validN nm pa va fs ≠ 0 then ([], 0, validN nm pa va fs) else if k < 1 ∨ 16 < k then ([], 0, 1)
  else ((givenS va.toNat pa.toNat fs).pl, ((frameM k (givenS va.toNat pa.toNat fs).pl).length : Int), 0)
section
variable {nm : ByteArray} {pa va k : Int} {fs : List FBlk}
theorem allocN_bad (h : validN nm pa va fs ≠ 0) : allocN nm pa va fs k = ([], 0, validN nm pa va fs) := by unfold allocN; rw [if_pos h]
theorem allocN_arg (h : validN nm pa va fs = 0) (hk : k < 1 ∨ 16 < k) : allocN nm pa va fs k = ([], 0, 1) := by unfold allocN; rw [if_neg (by simp [h]), if_pos hk]
theorem allocN_ok (h : validN nm pa va fs = 0) (hk : ¬ (k < 1 ∨ 16 < k)) : allocN nm pa va fs k = ((givenS va.toNat pa.toNat fs).pl, ((frameM k (givenS va.toNat pa.toNat fs).pl).length : Int), 0) := by
  unfold allocN; rw [if_neg (by simp [h]), if_neg hk]
end
def costI (pn : Nat) (fs : List FBlk) (i : Nat) : Nat := match fs[i]? with
  | some x => costB pn i x
  | none => 0
def costO (pn : Nat) (fs : List FBlk) (j : Nat) : Nat := (((orderL (bsOf fs)).take j).map (fun b => costI pn fs b.toNat)).sum
theorem costO_next {pn : Nat} {fs : List FBlk} {j b : Nat} {x : FBlk} (h : (orderL (bsOf fs))[j]? = some (b : Int)) (hx : fs[b]? = some x) : costO pn fs (j + 1) = costO pn fs j + costB pn b x := by
  unfold costO
  rw [takeS_snoc h, List.map_append, List.sum_append]
  simp [costI, hx]
theorem shape_args {i : FIns} (h : shapeQ i) : i.args.length ≤ 17 := by
  obtain ⟨_, h⟩ := h
  rcases h with h | h | h | h | h | h | h | h | h | h | h <;> omega
theorem costA_bound {is : List FIns} (h : ∀ p, p ∈ is → p.args.length ≤ 17) : costA is ≤ 19 * is.length := by
  have key : ∀ (j : Nat), j ≤ is.length → costA (is.take j) ≤ 19 * j := by
    intro j
    induction j with
    | zero => intro _; simp [costA]
    | succ j ih =>
      intro hj
      obtain ⟨p, hp⟩ := get_of (l := is) (i := j) (by omega)
      have h1 := costA_snoc hp
      have h2 := h p (List.mem_of_getElem? hp)
      have h3 := ih (by omega)
      omega
  have := key is.length (Nat.le_refl _)
  rwa [List.take_length] at this
theorem costI_bound {pn : Nat} {fs : List FBlk} (hs : ∀ x, x ∈ fs → ∀ p, p ∈ x.insts → shapeQ p) {i : Nat} {x : FBlk} (hx : fs[i]? = some x) : costI pn fs i ≤ (if i = 0 then 2 * pn else 0) + 19 * (x.phis.length + x.insts.length) := by
  unfold costI
  rw [hx]
  show costB pn i x ≤ _
  have h1 := costA_bound (is := x.insts) (fun p hp => shape_args (hs x (List.mem_of_getElem? hx) p hp))
  have h2 : (madeL pn i x).length = (if i = 0 then pn else 0) + x.phis.length := by
    unfold madeL
    rw [List.length_append, List.length_map]
    split <;> simp
  unfold costB
  rw [h2]
  split <;> omega
theorem costF_bound {pn : Nat} {fs : List FBlk} (hs : ∀ x, x ∈ fs → ∀ p, p ∈ x.insts → shapeQ p) : ((List.range fs.length).map (costI pn fs)).sum ≤ 2 * pn + 19 * sizeF fs := by
  have key : ∀ m, m ≤ fs.length → ((List.range m).map (costI pn fs)).sum ≤ (if m = 0 then 0 else 2 * pn) + 19 * sizeTo fs m := by
    intro m
    induction m with
    | zero => intro _; simp
    | succ m ih =>
      intro hm
      obtain ⟨x, hx⟩ := get_of (l := fs) (i := m) (by omega)
      rw [List.range_succ, List.map_append, List.sum_append, sizeTo_succ hx]
      have h1 := ih (by omega)
      have h2 := costI_bound (pn := pn) hs hx
      simp only [List.map_cons, List.map_nil, List.sum_cons, List.sum_nil, Nat.add_zero]
      rw [if_neg (Nat.succ_ne_zero m)]
      by_cases h0 : m = 0
      · subst h0
        simp at h1 h2 ⊢
        omega
      · rw [if_neg h0] at h1 h2
        omega
  have h := key fs.length (Nat.le_refl _)
  unfold sizeF
  split at h <;> omega
theorem order_nodup (bs : List SB) : ((orderL bs).map Int.toNat).Nodup := by
  unfold List.Nodup
  rw [List.pairwise_iff_getElem]
  intro i j hi hj hij e
  simp only [List.length_map] at hi hj
  simp only [List.getElem_map] at e
  obtain ⟨b1, h1, _, p1⟩ := ord_get hi
  obtain ⟨b2, h2, _, p2⟩ := ord_get hj
  rw [List.getElem?_eq_getElem hi] at h1
  rw [List.getElem?_eq_getElem hj] at h2
  injection h1 with h1
  injection h2 with h2
  rw [h1, h2] at e
  have e2 : b1 = b2 := by simpa using e
  rw [e2] at p1
  omega
theorem costO_bound {pn : Nat} {fs : List FBlk} (hs : ∀ x, x ∈ fs → ∀ p, p ∈ x.insts → shapeQ p) {j : Nat} : costO pn fs j ≤ 2 * pn + 19 * sizeF fs := by
  refine Nat.le_trans ?_ (costF_bound hs)
  unfold costO
  have e : ((orderL (bsOf fs)).take j).map (fun b => costI pn fs b.toNat) = (((orderL (bsOf fs)).take j).map Int.toNat).map (costI pn fs) := by rw [List.map_map]; rfl
  rw [e]
  refine sum_nodup_le _ _ _ ?_ ?_
  · rw [List.map_take]
    exact (order_nodup _).sublist (List.take_sublist _ _)
  · intro x hx
    obtain ⟨y, hy, rfl⟩ := List.mem_map.1 hx
    obtain ⟨i, hi⟩ := List.mem_iff_getElem?.1 (List.mem_of_mem_take hy)
    obtain ⟨b, h1, h2, _⟩ := ord_get (List.getElem?_eq_some_iff.1 hi).1
    rw [hi] at h1
    injection h1 with h1
    rw [h1, Int.toNat_natCast]
    rwa [bsOf_len] at h2
theorem givenTo_all {n pn : Nat} {fs : List FBlk} {j : Nat} (h : (orderL (bsOf fs)).length ≤ j) : givenTo n pn fs j = givenS n pn fs := by
  unfold givenTo givenS
  rw [List.take_of_length_le h]
theorem inK_len {l : List (Int × Int)} : (inK (Value.int .i64) (vM l)).length = l.length := by simp [inK, vM]
section
variable {n pn K k : Nat} {s : GSt} {x : FBlk} {af : List (Int × Int)}
theorem GB.gives (h : GB n s K) (l : List Int) : GB n (givesS s l) (K + l.length) := by
  unfold givesS
  induction l generalizing s K with
  | nil => exact h
  | cons v l ih =>
    have := ih (h.give v.toNat)
    rw [List.length_cons, show K + (l.length + 1) = K + 1 + l.length by omega]
    exact this
theorem GB.drops (h : GB n s K) (l : List Int) (hl : ∀ v, v ∈ l → 0 ≤ v ∧ v < (n : Int)) : GB n (dropsS af s l) (K + l.length) := by
  unfold dropsS
  induction l generalizing s K with
  | nil => exact h
  | cons v l ih =>
    have h1 : GB n (dropS af s v) (K + 1) := by
      unfold dropS
      split
      · exact h.mono (by omega)
      · have := hl v (List.mem_cons_self ..)
        exact h.back (by omega)
    have := ih h1 (fun u hu => hl u (List.mem_cons_of_mem _ hu))
    rw [List.length_cons, show K + (l.length + 1) = K + 1 + l.length by omega]
    exact this
theorem GB.args (h : GB n s K) {i : Nat} {args : List Int} (hl : ∀ v, v ∈ args → 0 ≤ v ∧ v < (n : Int)) : ∀ j, j ≤ args.length → GB n (argsTo af i args s j) (K + j)
  | 0, _ => h
  | j + 1, hj => by
    obtain ⟨v, hv⟩ := get_of (l := args) (i := j) (by omega)
    have ih := GB.args (i := i) h hl j (by omega)
    rw [argsTo_next hv]
    split
    · have := hl v (List.mem_of_getElem? hv)
      exact ih.back (by omega)
    · exact ih.mono (by omega)
theorem GB.ins (h : GB n s K) {is : List FIns} (hl : ∀ p, p ∈ is → p.dst < (n : Int) ∧ ∀ v, v ∈ p.args → 0 ≤ v ∧ v < (n : Int)) : ∀ j, j ≤ is.length → GB n (insTo af is s j) (K + costA (is.take j))
  | 0, _ => h.mono (by omega)
  | j + 1, hj => by
    obtain ⟨p, hp⟩ := get_of (l := is) (i := j) (by omega)
    have ih := GB.ins h hl j (by omega)
    obtain ⟨h1, h2⟩ := hl p (List.mem_of_getElem? hp)
    have h3 := GB.args (af := af) (i := j) ih h2 p.args.length (Nat.le_refl _)
    rw [insTo_next hp, costA_snoc hp]
    unfold dstS
    split
    · split
      · exact ((h3.give p.dst.toNat).back (by omega)).mono (by omega)
      · exact (h3.give p.dst.toNat).mono (by omega)
    · exact h3.mono (by omega)
theorem GB.block (h : GB n s K) (hK : 1 ≤ K) (hv : VR n x) (hp : pn ≤ n) (af : List (Int × Int)) (ins : List Int) : GB n (blockG af ins pn k x s) (K + costB pn k x) := by
  have h1 := (((h.begin hK ins).gives (madeL pn k x)).drops (af := af) (madeL pn k x) (madeL_in hp hv))
  have h2 := GB.ins (af := af) h1 (is := x.insts) (fun p hp => ⟨(hv.insts p hp).2.1, (hv.insts p hp).2.2⟩) x.insts.length (Nat.le_refl _)
  rw [List.take_length] at h2
  exact h2.mono (by unfold costB; omega)
end
theorem size_phis {fs : List FBlk} {k : Nat} {x : FBlk} (h : fs[k]? = some x) : x.phis.length ≤ sizeF fs := by
  have hk := (List.getElem?_eq_some_iff.1 h).1
  have key : ∀ n, k < n → n ≤ fs.length → x.phis.length ≤ sizeTo fs n := by
    intro n
    induction n with
    | zero => intro h; omega
    | succ n ih =>
      intro h1 h2
      obtain ⟨y, hy⟩ := get_of (l := fs) (i := n) (by omega)
      rw [sizeTo_succ hy]
      by_cases e : k = n
      · subst e
        rw [h] at hy
        injection hy with hy
        subst hy
        omega
      · have := ih (by omega) (by omega)
        omega
  have := key fs.length hk (Nat.le_refl _)
  unfold sizeF
  omega
end Go.Mor
namespace Go.Mor
open Go.RowKit
def atP (pl : List Int) (S : Int → Bool) (x : Int) : Int → Bool := fun v => S v && (pl.getD v.toNat 0 == x)
def cntS (n : Nat) (pl : List Int) (S : Int → Bool) (x : Int) : Nat := cardS n (atP pl S x)
def twS (n : Nat) (pl : List Int) (S : Int → Bool) : Nat := (pl.eraseDups.filter (fun x => decide (2 ≤ cntS n pl S x))).length
theorem nodup_eD (l : List Int) : l.eraseDups.Nodup := by
  match l with
  | [] => simp
  | a :: r =>
    rw [List.eraseDups_cons, List.nodup_cons]
    refine ⟨fun h => ?_, nodup_eD _⟩
    have h2 := (List.mem_filter.1 (List.mem_eraseDups.1 h)).2
    simp at h2
  termination_by l.length
  decreasing_by
    have := List.length_filter_le (fun b => !b == a) r
    simp only [List.length_cons]
    omega
theorem filt_len {D : List Int} (hn : D.Nodup) {x0 : Int} (hx : x0 ∈ D) {P Q : Int → Bool} (h : ∀ x, x ≠ x0 → P x = Q x) : (D.filter Q).length + cond (P x0) 1 0 = (D.filter P).length + cond (Q x0) 1 0 := by
  induction D with
  | nil => cases hx
  | cons a D ih =>
    obtain ⟨h1, h2⟩ := List.nodup_cons.1 hn
    rcases List.mem_cons.1 hx with e | e
    · subst e
      have e2 : D.filter Q = D.filter P := List.filter_congr (fun x hxD => (h x (fun e => by subst e; exact h1 hxD)).symm)
      rw [List.filter_cons, List.filter_cons, e2]
      cases P x0 <;> cases Q x0 <;> simp
    · have h3 := ih h2 e
      have h4 : a ≠ x0 := fun e2 => by subst e2; exact h1 e
      rw [List.filter_cons, List.filter_cons, h a h4]
      cases Q a <;> simp <;> omega
section
variable {n : Nat} {pl : List Int} {S : Int → Bool} {i : Nat}
theorem cntS_congr {T : Int → Bool} (h : ∀ i : Nat, i < n → S (i : Int) = T (i : Int)) (x : Int) : cntS n pl S x = cntS n pl T x := cardS_congr (fun i hi => by unfold atP; rw [h i hi])
theorem twS_congr {T : Int → Bool} (h : ∀ i : Nat, i < n → S (i : Int) = T (i : Int)) : twS n pl S = twS n pl T := by
  unfold twS
  congr 1
  exact List.filter_congr (fun x _ => by rw [cntS_congr h])
theorem cntS_le (x : Int) : cntS n pl S x ≤ n := cardS_le
theorem cntS_put (hi : i < n) (h : S (i : Int) = false) (x : Int) : cntS n pl (addS S (i : Int)) x = cntS n pl S x + if pl.getD i 0 = x then 1 else 0 := by
  unfold cntS
  by_cases e : pl.getD i 0 = x
  · rw [if_pos e]
    have e2 : atP pl (addS S (i : Int)) x = addS (atP pl S x) (i : Int) := by
      funext v
      unfold atP addS
      by_cases ev : v = (i : Int)
      · subst ev; rw [Int.toNat_natCast, e]; simp
      · have : (v == (i : Int)) = false := by simpa using ev
        simp [this]
    rw [e2, cardS_put hi (by unfold atP; rw [h]; rfl)]
  · rw [if_neg e]
    refine cardS_congr (fun j hj => ?_)
    unfold atP addS
    by_cases ev : (j : Int) = (i : Int)
    · have : j = i := by omega
      subst this
      have e3 : (pl.getD j 0 == x) = false := by simpa using e
      rw [Int.toNat_natCast, e3]; simp
    · have : ((j : Int) == (i : Int)) = false := by simpa using ev
      rw [this, Bool.false_or]
theorem rem_add (h : S (i : Int) = true) : addS (remS S (i : Int)) (i : Int) = S := by
  funext x
  unfold addS remS
  by_cases e : x = (i : Int)
  · subst e; rw [h]; simp
  · have : (x == (i : Int)) = false := by simpa using e
    rw [this]; simp
theorem cntS_take (hi : i < n) (h : S (i : Int) = true) (x : Int) : cntS n pl (remS S (i : Int)) x + (if pl.getD i 0 = x then 1 else 0) = cntS n pl S x := by
  have := cntS_put (pl := pl) (S := remS S (i : Int)) hi (by simp [remS]) x
  rw [rem_add h] at this
  omega
theorem plx_mem (hp : i < pl.length) : pl.getD i 0 ∈ pl.eraseDups := by
  have : pl.getD i 0 = pl[i] := by simp [List.getD, hp]
  rw [this]
  exact List.mem_eraseDups.2 (List.getElem_mem hp)
theorem twS_put (hi : i < n) (hp : i < pl.length) (h : S (i : Int) = false) : twS n pl (addS S (i : Int)) = twS n pl S + if cntS n pl S (pl.getD i 0) + 1 = 2 then 1 else 0 := by
  have h1 := filt_len (nodup_eD pl) (plx_mem hp) (P := fun x => decide (2 ≤ cntS n pl S x)) (Q := fun x => decide (2 ≤ cntS n pl (addS S (i : Int)) x)) (fun x hx => by
    show decide _ = decide _
    rw [cntS_put hi h, if_neg (fun e => hx e.symm)]; rfl)
  have h2 := cntS_put (pl := pl) hi h (pl.getD i 0)
  rw [if_pos rfl] at h2
  unfold twS
  simp only [h2] at h1
  split
  · rename_i e
    rw [decide_eq_false (show ¬ 2 ≤ cntS n pl S (pl.getD i 0) by omega), decide_eq_true (show 2 ≤ cntS n pl S (pl.getD i 0) + 1 by omega)] at h1
    simpa using h1
  · rename_i e
    by_cases e2 : 2 ≤ cntS n pl S (pl.getD i 0)
    · rw [decide_eq_true e2, decide_eq_true (show 2 ≤ cntS n pl S (pl.getD i 0) + 1 by omega)] at h1
      simpa using h1
    · rw [decide_eq_false e2, decide_eq_false (show ¬ 2 ≤ cntS n pl S (pl.getD i 0) + 1 by omega)] at h1
      simpa using h1
theorem twS_take (hi : i < n) (hp : i < pl.length) (h : S (i : Int) = true) : twS n pl (remS S (i : Int)) + (if cntS n pl S (pl.getD i 0) = 2 then 1 else 0) = twS n pl S := by
  have h1 := twS_put (pl := pl) (S := remS S (i : Int)) hi hp (by simp [remS])
  have h2 := cntS_take (pl := pl) hi h (pl.getD i 0)
  rw [rem_add h] at h1
  rw [if_pos rfl] at h2
  rw [h1]
  split <;> split <;> omega
structure Fits (n : Nat) (pl : List Int) (S : Int → Bool) (M : List (Int × Int)) (tw : Int) : Prop where
  cnt : ∀ x, (lkp M x).getD 0 = (cntS n pl S x : Int)
  tw : tw = (twS n pl S : Int)
theorem Fits.congr {M : List (Int × Int)} {tw : Int} {T : Int → Bool} (h : Fits n pl S M tw) (e : ∀ i : Nat, i < n → S (i : Int) = T (i : Int)) : Fits n pl T M tw :=
  ⟨fun x => by rw [h.cnt, cntS_congr e], by rw [h.tw, twS_congr e]⟩
theorem cntS_none (x : Int) : cntS n pl (fun _ => false) x = 0 := by
  unfold cntS cardS listS
  rw [List.length_map, List.filter_eq_nil_iff.2 (fun i _ => by simp [atP])]
  rfl
theorem Fits.none : Fits n pl (fun _ => false) [] 0 :=
  ⟨fun x => by rw [cntS_none]; rfl, by
    unfold twS
    rw [List.filter_eq_nil_iff.2 (fun x _ => by rw [cntS_none]; simp)]
    rfl⟩
def cntUp (pl : List Int) (M : List (Int × Int)) (v : Nat) (d : Int) : List (Int × Int) := upk M (pl.getD v 0) ((lkp M (pl.getD v 0)).getD 0 + d)
def twUp (pl : List Int) (M : List (Int × Int)) (v : Nat) (tw : Int) : Int := if (lkp M (pl.getD v 0)).getD 0 + 1 = 2 then tw + 1 else tw
def twDn (pl : List Int) (M : List (Int × Int)) (v : Nat) (tw : Int) : Int := if (lkp M (pl.getD v 0)).getD 0 - 1 = 1 then tw - 1 else tw
theorem Fits.put {M : List (Int × Int)} {tw : Int} (h : Fits n pl S M tw) (hi : i < n) (hp : i < pl.length) (hS : S (i : Int) = false) : Fits n pl (addS S (i : Int)) (cntUp pl M i 1) (twUp pl M i tw) := by
  refine ⟨fun x => ?_, ?_⟩
  · unfold cntUp
    rw [lkp_upk, cntS_put hi hS, h.cnt]
    by_cases e : pl.getD i 0 = x
    · rw [if_pos e.symm, if_pos e]; subst e; simp only [Option.getD_some]; omega
    · rw [if_neg (fun e2 => e e2.symm), if_neg e, h.cnt]; omega
  · unfold twUp
    rw [twS_put hi hp hS, h.cnt, h.tw]
    split <;> split <;> omega
theorem Fits.take {M : List (Int × Int)} {tw : Int} (h : Fits n pl S M tw) (hi : i < n) (hp : i < pl.length) (hS : S (i : Int) = true) : Fits n pl (remS S (i : Int)) (cntUp pl M i (-1)) (twDn pl M i tw) := by
  refine ⟨fun x => ?_, ?_⟩
  · unfold cntUp
    have h1 := cntS_take (pl := pl) hi hS x
    rw [lkp_upk, h.cnt]
    by_cases e : pl.getD i 0 = x
    · rw [if_pos e.symm]; rw [if_pos e] at h1; subst e; simp only [Option.getD_some]; omega
    · rw [if_neg (fun e2 => e e2.symm), h.cnt]; rw [if_neg e] at h1; omega
  · unfold twDn
    have h1 := twS_take (pl := pl) hi hp hS
    rw [h.cnt, h.tw]
    split
    · rw [if_pos (by omega)] at h1; omega
    · rw [if_neg (by omega)] at h1; omega
def sepP (pl : List Int) (l : List Int) : Bool := decide ((l.map (fun v => pl.getD v.toNat 0)).Nodup)
theorem nodup_cnt {l : List Int} : l.Nodup ↔ ∀ x, l.count x ≤ 1 := by
  induction l with
  | nil => simp
  | cons a l ih =>
    rw [List.nodup_cons, ih]
    constructor
    · rintro ⟨h1, h2⟩ x
      rw [List.count_cons]
      by_cases e : a = x
      · subst e
        have : l.count a = 0 := List.count_eq_zero.2 h1
        simp [this]
      · have : (a == x) = false := by simpa using e
        simp [this]
        exact h2 x
    · intro h
      refine ⟨fun h1 => ?_, fun x => ?_⟩
      · have h2 := h a
        rw [List.count_cons] at h2
        have h3 := List.count_pos_iff.2 h1
        simp at h2
        omega
      · have h2 := h x
        rw [List.count_cons] at h2
        omega
theorem cnt_list (x : Int) : ((listS n S).map (fun v => pl.getD v.toNat 0)).count x = cntS n pl S x := by
  unfold cntS cardS listS List.count
  rw [List.countP_map, List.countP_map, List.countP_filter, List.countP_eq_length_filter, List.length_map]
  congr 1
  refine List.filter_congr (fun i _ => ?_)
  simp only [Function.comp, atP, Int.toNat_natCast]
  rw [Bool.and_comm]
theorem Fits.sep {M : List (Int × Int)} {tw : Int} (h : Fits n pl S M tw) (hp : n ≤ pl.length) : decide (tw = 0) = sepP pl (listS n S) := by
  unfold sepP
  rw [decide_eq_decide, nodup_cnt, h.tw]
  constructor
  · intro h0 x
    rw [cnt_list]
    have h1 : twS n pl S = 0 := by omega
    unfold twS at h1
    have h2 := List.eq_nil_of_length_eq_zero h1
    by_cases hx : x ∈ pl.eraseDups
    · have h3 := List.filter_eq_nil_iff.1 h2 x hx
      have h4 : ¬ 2 ≤ cntS n pl S x := by simpa using h3
      omega
    · have h5 : cntS n pl S x = 0 := by
        unfold cntS cardS listS
        rw [List.length_map, List.filter_eq_nil_iff.2 (fun i hi h6 => ?_)]
        · rfl
        · simp only [atP, Bool.and_eq_true, beq_iff_eq, Int.toNat_natCast] at h6
          have h7 := List.mem_range.1 hi
          exact hx (h6.2 ▸ plx_mem (by omega))
      omega
  · intro h0
    have h1 : twS n pl S = 0 := by
      unfold twS
      rw [List.filter_eq_nil_iff.2 (fun x _ => by have := h0 x; rw [cnt_list] at this; simp; omega)]
      rfl
    omega
theorem eD_len (l : List Int) : l.eraseDups.length ≤ l.length := by
  match l with
  | [] => simp
  | a :: r =>
    rw [List.eraseDups_cons, List.length_cons, List.length_cons]
    have h1 := eD_len (r.filter (fun b => !b == a))
    have h2 := List.length_filter_le (fun b => !b == a) r
    omega
  termination_by l.length
  decreasing_by
    have := List.length_filter_le (fun b => !b == a) r
    simp only [List.length_cons]
    omega
theorem Fits.btw {M : List (Int × Int)} {tw : Int} (h : Fits n pl S M tw) (hp : pl.length ≤ 20000) : -1000000 ≤ tw ∧ tw ≤ 1000000 := by
  have h1 := h.tw
  have h2 : twS n pl S ≤ pl.length := Nat.le_trans (List.length_filter_le _ _) (eD_len pl)
  omega
theorem Fits.bcn {M : List (Int × Int)} {tw : Int} (h : Fits n pl S M tw) (hn : n ≤ 20000) : ∀ x, -1000000 ≤ (lkp M x).getD 0 ∧ (lkp M x).getD 0 ≤ 1000000 := by
  intro x
  have h1 := h.cnt x
  have h2 := cntS_le (n := n) (pl := pl) (S := S) x
  omega
def memS (l : List Int) : Int → Bool := fun v => decide (v ∈ l)
theorem memS_nil : memS [] = fun _ => false := by funext v; simp [memS]
theorem memS_next {l : List Int} {j : Nat} {v : Int} (h : l[j]? = some v) : memS (l.take (j + 1)) = addS (memS (l.take j)) v := by
  funext x
  unfold memS addS
  rw [takeS_snoc h, Bool.eq_iff_iff]
  simp only [List.mem_append, List.mem_singleton, decide_eq_true_eq, Bool.or_eq_true, beq_iff_eq]
  exact Or.comm
theorem listS_nodup : (listS n S).Nodup := by
  unfold listS List.Nodup
  rw [List.pairwise_map]
  have h0 : ((List.range n).filter (fun i : Nat => S (i : Int))).Pairwise (fun a b => a ≠ b) := List.Pairwise.filter _ List.nodup_range
  refine List.Pairwise.imp ?_ h0
  intro a b h e
  have e2 : (a : Int) = (b : Int) := e
  exact h (by omega)
theorem memS_new {l : List Int} (hn : l.Nodup) {j : Nat} {v : Int} (h : l[j]? = some v) : memS (l.take j) v = false := by
  unfold memS
  refine decide_eq_false (fun hm => ?_)
  obtain ⟨i, hi⟩ := List.mem_iff_getElem?.1 hm
  have hil : i < j := by
    have := (List.getElem?_eq_some_iff.1 hi).1
    rw [List.length_take] at this
    omega
  rw [List.getElem?_take, if_pos hil] at hi
  obtain ⟨h1, h2⟩ := List.getElem?_eq_some_iff.1 hi
  obtain ⟨h3, h4⟩ := List.getElem?_eq_some_iff.1 h
  unfold List.Nodup at hn
  exact List.pairwise_iff_getElem.1 hn i j h1 h3 hil (h2.trans h4.symm)
theorem memS_all : ∀ i : Nat, i < n → memS (listS n S) (i : Int) = S (i : Int) := by
  intro i hi
  unfold memS
  rw [Bool.eq_iff_iff, decide_eq_true_iff]
  unfold listS
  rw [List.mem_map]
  constructor
  · rintro ⟨j, hj, e⟩
    have : j = i := by omega
    subst this
    exact (List.mem_filter.1 hj).2
  · intro h
    exact ⟨i, List.mem_filter.2 ⟨List.mem_range.2 hi, h⟩, rfl⟩
theorem and3 (a b c : Bool) : ((a && b) && c) = (a && (c && b)) := by cases a <;> cases b <;> cases c <;> rfl
end
end Go.Mor
namespace Go.Mor
open Go.RowKit
theorem besTo_li {n pn : Nat} {fs : List FBlk} {SI SO : Int → Int → Bool} (h : LiveS n fs SI SO) (k : Nat) : besTo n pn fs SO k = besTo n pn fs (liO fs) k :=
  besTo_congr (fun b hb i hi => by
    rw [Bool.eq_iff_iff]
    unfold liO
    rw [@decide_eq_true_iff _ (Classical.propDecidable _)]
    exact (h b hb (i : Int) (by omega) (by omega)).2)
noncomputable def rightN (nm : ByteArray) (pa va : Int) (fs : List FBlk) (pl : List Int) : Bool :=
  if validN nm pa va fs ≠ 0 ∨ (pl.length : Int) ≠ va then false else if ¬ (∀ x, x ∈ pl → 0 ≤ x) then false else (besTo va.toNat pa.toNat fs (liO fs) fs.length).all (sepP pl)
section
variable {nm : ByteArray} {pa va : Int} {fs : List FBlk} {pl : List Int}
theorem rightN_bad (h : validN nm pa va fs ≠ 0 ∨ (pl.length : Int) ≠ va) : rightN nm pa va fs pl = false := by unfold rightN; rw [if_pos h]
theorem rightN_neg (h : ¬ (validN nm pa va fs ≠ 0 ∨ (pl.length : Int) ≠ va)) {x : Int} (hx : x ∈ pl) (h0 : x < 0) : rightN nm pa va fs pl = false := by
  unfold rightN; rw [if_neg h, if_pos (fun h2 => by have := h2 x hx; omega)]
theorem rightN_ok (h : ¬ (validN nm pa va fs ≠ 0 ∨ (pl.length : Int) ≠ va)) (h2 : ∀ x, x ∈ pl → 0 ≤ x) : rightN nm pa va fs pl = (besTo va.toNat pa.toNat fs (liO fs) fs.length).all (sepP pl) := by
  unfold rightN; rw [if_neg h, if_neg (fun h3 => h3 h2)]
end
end Go.Mor
namespace Go.Mor
open Go.RowKit
section
variable {bs : List SB} {up : Int → Int}
end
end Go.Mor
namespace Go.Mor
open Go.RowKit
end Go.Mor
namespace Go.Mor
open Go.RowKit
def great5Q (va : Int) (fs : List FBlk) : Prop := greatQ va fs ∨ 1500 < sizeF fs ∨ 800 < va
instance (va : Int) (fs : List FBlk) : Decidable (great5Q va fs) := by unfold great5Q; infer_instance
def exB (A7 A5 : Option Addr) : FBlk := ⟨none, 0, [], A7, 3, [⟨1, 0, 1, ⟨#[]⟩, none, 0, []⟩, ⟨1, 1, 2, ⟨#[]⟩, none, 0, []⟩, ⟨17, 2, 0, ⟨#[]⟩, A5, 2, [0, 1]⟩], 2, 2, 0, 0⟩
def exN : ByteArray := ⟨#[102]⟩
section
variable {A5 A7 A9 : Option Addr}
theorem row_rds {w : World} {e size n c : Nat} {A : Option Addr} {xs : List Value} {css : List (List Value)} (h : (Res.row e size A n c xs).holds w) (hx : ∀ i cs, css[i]? = some cs → cs ≠ [] ∧ ∀ j v, cs[j]? = some v → xs[i * size + j]? = some v) : (Res.rds A size css).holds w := by
  have hr := row_rd h
  intro i cs hi
  obtain ⟨hne, hg⟩ := hx i cs hi
  obtain ⟨v0, hv0⟩ : ∃ v, cs[0]? = some v := ⟨_, List.getElem?_eq_getElem (List.length_pos_iff.2 hne)⟩
  obtain ⟨a, ha, _⟩ := hr (i * size + 0) v0 (hg 0 v0 hv0)
  refine ⟨a, ha, fun j v hj => ?_⟩
  obtain ⟨a', ha', hc⟩ := hr (i * size + j) v (hg j v hj)
  rw [ha] at ha'
  injection ha' with ha'
  subst ha'
  rw [add_add]
  exact hc
theorem ex_ro {w : World} {e5 e7 e9 n5 n7 n9 c5 c7 c9 : Nat} (h5 : (Res.row e5 1 A5 n5 c5 (ints [0, 1])).holds w) (h7 : (Res.row e7 5 A7 n7 c7 ((exB A7 A5).insts.flatMap FIns.cells)).holds w) (h9 : (Res.row e9 6 A9 n9 c9 (exB A7 A5).sb.cells).holds w) : RO noS w (.fn A9 [exB A7 A5]) := by
  refine RO.of (fun r hr => ?_)
  have e : (Res.blocks A9 (bsOf [exB A7 A5]) :: [exB A7 A5].flatMap FBlk.parts) = [.blocks A9 (bsOf [exB A7 A5]), .rds none 2 [], .rds A7 5 ((exB A7 A5).insts.map FIns.cells), .rd none (ints []), .rd none (ints []), .rd A5 (ints [0, 1])] := rfl
  rw [e] at hr
  simp only [List.mem_cons, List.not_mem_nil, or_false] at hr
  rcases hr with rfl | rfl | rfl | rfl | rfl | rfl
  · refine row_rds h9 (fun i cs hi => ?_)
    match i, hi with
    | 0, hi =>
      have : (exB A7 A5).sb.cells = cs := by simpa [bsOf] using hi
      subst this
      exact ⟨by simp [exB, FBlk.sb, SB.cells], fun j v hj => by simpa using hj⟩
    | i + 1, hi => simp [bsOf] at hi
  · intro i cs hi; simp at hi
  · refine row_rds h7 (fun i cs hi => ?_)
    match i, hi with
    | 0, hi =>
      simp [exB] at hi
      subst hi
      exact ⟨by simp [FIns.cells], fun j v hj => by
        have : j < 5 := (List.getElem?_eq_some_iff.1 hj).1
        match j, hj with
        | 0, hj => exact hj
        | 1, hj => exact hj
        | 2, hj => exact hj
        | 3, hj => exact hj
        | 4, hj => exact hj
        | j + 5, hj => omega⟩
    | 1, hi =>
      simp [exB] at hi
      subst hi
      exact ⟨by simp [FIns.cells], fun j v hj => by
        have : j < 5 := (List.getElem?_eq_some_iff.1 hj).1
        match j, hj with
        | 0, hj => exact hj
        | 1, hj => exact hj
        | 2, hj => exact hj
        | 3, hj => exact hj
        | 4, hj => exact hj
        | j + 5, hj => omega⟩
    | 2, hi =>
      simp [exB] at hi
      subst hi
      exact ⟨by simp [FIns.cells], fun j v hj => by
        have : j < 5 := (List.getElem?_eq_some_iff.1 hj).1
        match j, hj with
        | 0, hj => exact hj
        | 1, hj => exact hj
        | 2, hj => exact hj
        | 3, hj => exact hj
        | 4, hj => exact hj
        | j + 5, hj => omega⟩
    | i + 3, hi => simp [exB] at hi
  · intro i v hi; simp [ints] at hi
  · intro i v hi; simp [ints] at hi
  · exact row_rd h5
theorem ex_ok : FOk [exB A7 A5] := by
  intro x hx
  rw [List.mem_singleton] at hx
  subst hx
  refine ⟨by simp [exB, LenOk], fun p hp => by simp [exB] at hp, by simp [exB, LenOk], fun p hp => ?_, by simp [exB, In64], by simp [exB, In64], by simp [exB, In64], by simp [exB, In64]⟩
  simp only [exB, List.mem_cons, List.not_mem_nil, or_false] at hp
  rcases hp with rfl | rfl | rfl
  · exact ⟨by simp [In64], by simp [In64], by simp [In64], by show (0 : Nat) ≤ _; omega, by simp [LenOk], fun x hx => by simp at hx⟩
  · exact ⟨by simp [In64], by simp [In64], by simp [In64], by show (0 : Nat) ≤ _; omega, by simp [LenOk], fun x hx => by simp at hx⟩
  · exact ⟨by simp [In64], by simp [In64], by simp [In64], by show (0 : Nat) ≤ _; omega, by simp [LenOk], fun x hx => by simp at hx; rcases hx with rfl | rfl <;> simp [In64]⟩
theorem ex_defs : defsF [exB A7 A5] = [(0, 0, 0), (1, 0, 1), (2, 0, 2)] := rfl
theorem ex_good : GoodQ exN 0 3 [exB A7 A5] where
  name := ⟨by decide, by decide⟩
  par := by omega
  pos := by simp
  phis x hx := by simp at hx; subst hx; rfl
  src := rfl
  all := rfl
  ends x hx := by
    rw [List.mem_singleton] at hx
    subst hx
    exact .inr (.inr (.inl ⟨rfl, rfl, rfl⟩))
  vals := by
    refine ⟨fun x hx p hp => ?_, ?_⟩
    · rw [List.mem_singleton] at hx
      subst hx
      simp only [exB, List.mem_cons, List.not_mem_nil, or_false] at hp
      have e0 : (⟨#[]⟩ : ByteArray).size = 0 := rfl
      rcases hp with rfl | rfl | rfl <;> simp [shapeQ, makesQ, e0]
    · rw [ex_defs]
      exact ⟨by simp, by simp⟩
  reads k hk := by
    obtain rfl : k = 0 := by simp at hk; exact hk
    refine ⟨exB A7 A5, rfl, ⟨fun j p hp => by simp [exB] at hp, fun j p hp i a ha => ?_, fun _ => ?_⟩⟩
    · match j, hp with
      | 0, hp => simp [exB] at hp; subst hp; simp at ha
      | 1, hp => simp [exB] at hp; subst hp; simp at ha
      | 2, hp =>
        simp [exB] at hp
        subst hp
        match i, ha with
        | 0, ha => simp at ha; subst ha; exact ⟨by omega, by omega, .inr ⟨(0, 0), by rw [ex_defs]; rfl, .inl ⟨rfl, by simp⟩⟩⟩
        | 1, ha => simp at ha; subst ha; exact ⟨by omega, by omega, .inr ⟨(0, 1), by rw [ex_defs]; rfl, .inl ⟨rfl, by simp⟩⟩⟩
        | i + 2, ha => simp at ha
      | j + 3, hp => simp [exB] at hp
    · exact ⟨by simp [exB], by simp [exB], .inr ⟨(0, 2), by rw [ex_defs]; rfl, .inl ⟨rfl, by simp⟩⟩⟩
theorem ex_valid : validN exN 0 3 [exB A7 A5] = 0 := (valid_0 (by rintro (h | h) <;> simp [sizeF, sizeTo, exB] at h) ex_good).symm
theorem ex_use {v : Int} : ¬ UseQ (exB A7 A5) v := by
  rintro ⟨_, h | ⟨_, h, h2⟩⟩
  · simp only [exB, readL, List.not_mem_nil, false_or, List.mem_cons, or_false, and_false] at h
    omega
  · exact h2 _ (List.mem_cons_of_mem _ (List.mem_cons_of_mem _ List.mem_cons_self)) h
theorem ex_tg (b : Int) (hb : b = 0) : tg (bsOf [exB A7 A5]) b = [] := by subst hb; rfl
theorem ex_live {q : Bool} {b v : Int} (h : LV [exB A7 A5] q b v) : b ≠ 0 := by
  intro hb
  induction h with
  | @use b x v hx hu =>
    obtain rfl : b = 0 := by omega
    simp at hx
    subst hx
    exact ex_use hu
  | thru _ _ _ ih => exact ih hb
  | @phi b v h =>
    obtain ⟨t, x, j, p, i, hx, hp, _⟩ := h
    have := List.mem_of_getElem? hx
    rw [List.mem_singleton] at this
    subst this
    simp [exB] at hp
  | @edge b t v ht _ _ =>
    rw [ex_tg b hb] at ht
    simp at ht
theorem ex_lives : LiveS 3 [exB A7 A5] (fun _ _ => false) (fun _ _ => false) := by
  intro b hb v _ _
  obtain rfl : b = 0 := by simp at hb; exact hb
  exact ⟨⟨fun h => Bool.noConfusion h, fun h => absurd rfl (ex_live h)⟩, ⟨fun h => Bool.noConfusion h, fun h => absurd rfl (ex_live h)⟩⟩
theorem ex_end : endR (exB A7 A5) (fun _ => false) = fun v => v == 2 := by
  funext v
  unfold endR
  rw [Bool.eq_iff_iff]
  simp only [Bool.false_or, decide_eq_true_eq, beq_iff_eq]
  constructor
  · rintro ⟨_, h⟩; exact h.symm
  · rintro rfl; exact ⟨.inr ⟨rfl, by simp [exB]⟩, rfl⟩
end
end Go.Mor
namespace Go.Mor
open Go.RowKit
def great7Q (va : Int) (fs : List FBlk) : Prop := greatQ va fs ∨ 800 < sizeF fs ∨ 500 < va
instance (va : Int) (fs : List FBlk) : Decidable (great7Q va fs) := by unfold great7Q; infer_instance
section
variable {A5 A7 A9 : Option Addr}
theorem ex_order : orderL (bsOf [exB A7 A5]) = [0] := by rfl
theorem ex_liO : listS 3 (liO [exB A7 A5] ((0 : Nat) : Int)) = [] := by
  rw [← ex_lives.listO (b := 0) (by simp)]
  rfl
theorem ex_fin : finS (exB A7 A5) := .inr ⟨rfl, by simp [exB]⟩
theorem ex_read : readM (exB A7 A5) 3 (liO [exB A7 A5] ((0 : Nat) : Int)) = upk (insM [] (exB A7 A5).insts 3) 2 3 := by
  unfold readM
  rw [endM_fin ex_fin, ex_liO]
  rfl
theorem ex_given : (givenS 3 0 [exB A7 A5]).pl = [0, 1, 0] := by
  unfold givenS
  rw [ex_order]
  show (blockG (readM (exB A7 A5) 3 (liO [exB A7 A5] ((0 : Nat) : Int))) [] 0 0 (exB A7 A5) ⟨List.replicate 3 0, [], 0⟩).pl = _
  rw [ex_read]
  kernel_rfl
theorem ex_alloc : allocN exN 0 3 [exB A7 A5] 2 = ([0, 1, 0], 0, 0) := by
  rw [allocN_ok ex_valid (by omega)]
  show ((givenS 3 0 [exB A7 A5]).pl, ((frameM 2 (givenS 3 0 [exB A7 A5]).pl).length : Int), (0 : Int)) = _
  rw [ex_given]
  kernel_rfl
theorem ex_bes : besTo 3 0 [exB A7 A5] (liO [exB A7 A5]) [exB A7 A5].length = [[], [0], [0, 1], [2]] := by
  rw [← besTo_li ex_lives]
  have e : besTo 3 0 [exB A7 A5] (fun _ _ => false) [exB A7 A5].length = blkC 3 0 0 (exB A7 A5) (fun _ => false) := by
    show besTo 3 0 [exB A7 A5] (fun _ _ => false) (0 + 1) = _
    rw [besTo_next (x := exB A7 A5) rfl]
    rfl
  rw [e]
  unfold blkC firstS
  rw [ex_end]
  rfl
theorem ex_right : rightN exN 0 3 [exB A7 A5] [0, 1, 0] = true := by
  rw [rightN_ok (by rw [ex_valid]; simp) (by simp), show (3 : Int).toNat = 3 from rfl, show (0 : Int).toNat = 0 from rfl, ex_bes]
  kernel_rfl
theorem ex_wrong : rightN exN 0 3 [exB A7 A5] [0, 0, 0] = false := by
  rw [rightN_ok (by rw [ex_valid]; simp) (by simp), show (3 : Int).toNat = 3 from rfl, show (0 : Int).toNat = 0 from rfl, ex_bes]
  kernel_rfl
end
def exSpec : Spec := .any (fun v w => ∃ A5 A7 A9, v = fA exN false 0 3 A9 1 [exB A7 A5] ∧ RO noS w (.fn A9 [exB A7 A5]))
  (fun _ _ _ hK ⟨A5, A7, A9, hv, h⟩ => ⟨A5, A7, A9, hv, RO.later h hK⟩)
end Go.Mor
namespace Go.Mor
open Go.RowKit
theorem givesS_plen {s : GSt} {l : List Int} : (givesS s l).pl.length = s.pl.length := by
  unfold givesS
  induction l generalizing s with
  | nil => rfl
  | cons v l ih => exact (ih (s := giveS s v.toNat)).trans giveS_plen
theorem dropsS_plen {s : GSt} {af : List (Int × Int)} {l : List Int} : (dropsS af s l).pl.length = s.pl.length := by
  unfold dropsS
  induction l generalizing s with
  | nil => rfl
  | cons v l ih =>
    refine (ih (s := dropS af s v)).trans ?_
    unfold dropS
    split <;> rfl
theorem argsTo_plen {s : GSt} {af : List (Int × Int)} {i : Nat} {args : List Int} : ∀ j, (argsTo af i args s j).pl.length = s.pl.length
  | 0 => rfl
  | j + 1 => by
    refine Eq.trans ?_ (argsTo_plen (s := s) (af := af) (i := i) (args := args) j)
    show (argS af i args (argsTo af i args s j) j).pl.length = _
    unfold argS
    split
    · split <;> rfl
    · rfl
theorem insTo_plen {s : GSt} {af : List (Int × Int)} {is : List FIns} : ∀ j, (insTo af is s j).pl.length = s.pl.length
  | 0 => rfl
  | j + 1 => by
    refine Eq.trans ?_ (insTo_plen (s := s) (af := af) (is := is) j)
    show (match is[j]? with | some p => dstS af j (argsTo af j p.args (insTo af is s j) p.args.length) p.dst | none => insTo af is s j).pl.length = _
    split
    · rename_i p _
      have h := argsTo_plen (s := insTo af is s j) (af := af) (i := j) (args := p.args) p.args.length
      unfold dstS
      split
      · split
        · exact giveS_plen.trans h
        · exact giveS_plen.trans h
      · exact h
    · rfl
theorem givenS_len {n pn : Nat} {fs : List FBlk} : (givenS n pn fs).pl.length = n := by
  have key : ∀ (l : List Int) (s : GSt), (l.foldl (stepG n pn fs) s).pl.length = s.pl.length := by
    intro l
    induction l with
    | nil => intro s; rfl
    | cons b l ih =>
      intro s
      refine (ih (stepG n pn fs s b)).trans ?_
      unfold stepG
      split
      · unfold blockG
        rw [insTo_plen, dropsS_plen, givesS_plen]
        rfl
      · rfl
  unfold givenS
  rw [key]
  simp
theorem allocN_len {nm : ByteArray} {pa va k : Int} {fs : List FBlk} : (allocN nm pa va fs k).1.length ≤ 20000 := by
  unfold allocN
  split
  · exact Nat.zero_le _
  · split
    · exact Nat.zero_le _
    · rename_i h0 _
      show (givenS va.toNat pa.toNat fs).pl.length ≤ 20000
      rw [givenS_len]
      have h1 : validN nm pa va fs = 0 := Classical.not_not.1 h0
      have := (valid_good h1).2.1
      omega
theorem great7_no {va : Int} {fs : List FBlk} (h : ¬ great7Q va fs) : fs.length ≤ 60 ∧ sizeF fs ≤ 800 := by
  unfold great7Q at h
  have h1 : ¬ greatQ va fs := fun e => h (.inl e)
  have h2 : ¬ 800 < sizeF fs := fun e => h (.inr (.inl e))
  exact ⟨greatQ_len h1, by omega⟩
end Go.Mor
namespace Go.Proofs.YthgbejihcchcnaaDoor
open Go.Mor
theorem give_c (g : Nat) (PA : Option Addr) (pc : Nat) (A : Option Addr) (c : Nat) (s : GSt) (q : Nat) (w : World) (hG : (Res.pk (gvL g PA pc A c s)).holds w) (hpl : s.pl.length ≤ 100000) (hfl : s.fr.length ≤ 100000) (hq : q < s.pl.length) (hnx : 0 ≤ s.nx ∧ s.nx ≤ 1000000) :
    Calls Tryd.prog 68 #[(pT g 0), (nV q)] w (Ret fun v w' => ∃ A' c', v = .tuple #[] ∧ Mem (Res.pk (gvL g PA pc A c s)).fp w w' (gvL g PA pc A' c' (giveS s q))) := by
 refine zen 39 [(pT g 0), (nV q)] Tryd.func68 ?_
 have hM := Mem.unpk hG
 refine zsq <| zsr <| zpn 3 <| zld ⟨g, 1, none⟩ (.slice A s.fr.length c) (blk_cell (hM.get 0 rfl) rfl) <| zpn 2 <| zfe <| zcD ((((s.fr.length : Nat) : Int) : Int) > 0) (fun c1 => ?_) (fun c1 => ?_)
 refine zsq ?_
 obtain ⟨g2, rfl⟩ := row_some (hM.get 2 rfl) (by omega)
 refine zkp [(0, (pT g 0)), (1, (nV q))] ?_
 intro aC fr
 refine zdj (N := 39) (env0 := [(0, (pT g 0)), (1, (nV q))]) (specAt [.det (pT g 0), .det (pT g 0), .det (pT g 0), .det (.slice (sM g2) s.pl.length pc), .det (nV q), .det (pT g 0), .det (pT g 0), .det (pT g 1), .det (.iface 126 (pT g 1)), Spec.free, .det (.int .i64 (qTop s.fr)), .det (.pointer (some ((⟨g2, 0, none⟩ : Addr).add (((q : Int)).toNat * 1)))), .det undef]) (fun ls vs w_ => match ls 12 with | true => (vs 9 = (.iface 3 (.int .i64 (qTop s.fr))) ∧ Mem (Res.pk (gvL g (sM g2) pc A c s)).fp w w_ [.blk g 70 [(.slice (sM g2) s.pl.length pc), (.slice A (s.fr.length - 1) c), (.int .i64 s.nx)], .row 3 1 A (s.fr.length - 1) c (ints (qPop s.fr)), .row 3 1 (sM g2) s.pl.length pc ((ints s.pl).set (((q : Int)).toNat * 1) (.int .i64 (qTop s.fr)))]) | false => (match ls 9 with | true => (vs 9 = (.iface 3 (.int .i64 (qTop s.fr))) ∧ Mem (Res.pk (gvL g (sM g2) pc A c s)).fp w w_ [.blk g 70 [(.slice (sM g2) s.pl.length pc), (.slice A (s.fr.length - 1) c), (.int .i64 s.nx)], .row 3 1 A (s.fr.length - 1) c (ints (qPop s.fr)), .row 3 1 (sM g2) s.pl.length pc (ints s.pl)]) | false => (Mem (Res.pk (gvL g (sM g2) pc A c s)).fp w w_ [.blk g 70 [(.slice (sM g2) s.pl.length pc), (.slice A s.fr.length c), (.int .i64 s.nx)], .row 3 1 A s.fr.length c (ints s.fr), .row 3 1 (sM g2) s.pl.length pc (ints s.pl)]))) fr (plain_ok (.det (.det (.det (.det (.det (.det (.det (.det (.det (.free (.det (.det (.det .nil)))))))))))))) (hM.then_ (Mem.drew _)) (la (la (la (la (la (la (la (la (la (la (la (la (la lz (dPJ fun _ _ _ _ h => h)) (dPJ fun _ _ _ _ h => h)) (dPJ fun _ _ _ _ h => h)) (dLJ ⟨g, 0, none⟩ (.slice (sM g2) s.pl.length pc) (fun _ _ _ _ h => h) ?_)) (dPJ fun _ _ _ _ h => h)) (dPJ fun _ _ _ _ h => h)) (dPJ fun _ _ _ _ h => h)) (dPJ fun _ _ _ _ h => h)) (dPJ fun _ _ _ _ h => h)) ?_) ?_) (dIJ ⟨g2, 0, none⟩ s.pl.length 1 (q : Int) fun _ _ _ _ h => h)) ?_) ?_
 intro w_ ls vs hJ hi_ hc_ hp
 have f12 : ls 12 = false := notyet hc_ hi_ (n := 13) (by kernel_rfl)
 have hM_ := hJ
 simp only [f12] at hM_
 cases fu : ls 9
 simp only [fu] at hM_
 exact (blk_cell (hM_.get 0 rfl) rfl)
 simp only [fu] at hM_
 obtain ⟨_, hM_⟩ := hM_
 exact (blk_cell (hM_.get 0 rfl) rfl)
 intro aa_ w_ ls vs rest_ hJ hi_ hc_ hp hF
 refine okG (g0 := none) ?_
 replace hF : Fr aa_ 39 [(18, (.iface 126 (pT g 1)))] := hF.kp [18]
 have f9 : ls 9 = false := hi_
 have f12 : ls 12 = false := notyet hc_ hi_ (n := 13) (by kernel_rfl)
 have hM_ := hJ
 simp only [f9, f12] at hM_
 refine From_call (by kernel_rfl : coreAt _ 0 = some (some 19, (.call { callee := (.value (.func 86)), args := #[(.tmp 18)], argTypes := #[137] }), 20, none)) hF (by kernel_rfl) (by kernel_rfl) (k' := 1) rfl (f := 86) (vs := [(.iface 126 (pT g 1))]) (cap := []) (by kernel_rfl) (by kernel_rfl) (by kernel_rfl) (pop_c g (.slice (sM g2) s.pl.length pc) (.int .i64 s.nx) s.fr A c w_ (by omega) (by omega) (hM_.get 0 rfl) (hM_.get 1 rfl) (hM_.far (i := 0) (j := 1) rfl rfl (by decide))) ?_
 rintro _ w2 ⟨rfl, hm2⟩ a2 ea _
 have hm3 := hM_.mod2 hm2
 refine From_end (by kernel_rfl) ?_; refine op_doneJ (d := some 19) (by kernel_rfl) ea trivial ?_
 show match ls 12 with | true => _ | false => (_)
 rw [f12]
 exact ⟨rfl, hm3⟩
 intro aa_ w_ ls vs rest_ hJ hi_ hc_ hp hF
 refine okG (g0 := none) ?_
 replace hF : Fr aa_ 39 [(19, vs 9)] := hF.kp [19]
 have f9 : ls 9 = true := donebefore hc_ (fun k hk => (hp k hk).1) (n := 13) (by kernel_rfl)
 have f12 : ls 12 = false := notyet hc_ hi_ (n := 13) (by kernel_rfl)
 have hM_ := hJ
 simp only [f9, f12] at hM_
 obtain ⟨e9_, hM_⟩ := hM_
 try rw [e9_] at hF
 refine From_ti (by kernel_rfl : coreAt _ 0 = some (some 20, (.typeAssert (.tmp 19) 20 3 false), 3, none)) hF (by kernel_rfl) (by kernel_rfl) (k' := 1) rfl (X := (.iface 3 (.int .i64 (qTop s.fr)))) (v := (.int .i64 (qTop s.fr))) (by kernel_rfl) (by kernel_rfl) ?_
 intro a2 ea _
 refine From_end (by kernel_rfl) ?_; exact op_doneJ (d := some 20) (by kernel_rfl) ea rfl hJ
 intro aa_ w_ ls vs rest_ hJ hi_ hc_ hp hF
 refine okG (g0 := none) ?_
 replace hF : Fr aa_ 39 [(20, (.int .i64 (qTop s.fr))), (21, (.pointer (some ((⟨g2, 0, none⟩ : Addr).add (((q : Int)).toNat * 1)))))] := hF.kp [20, 21]
 have f9 : ls 9 = true := donebefore hc_ (fun k hk => (hp k hk).1) (n := 13) (by kernel_rfl)
 have f12 : ls 12 = false := hi_
 have hM_ := hJ
 simp only [f9, f12] at hM_
 obtain ⟨e9_, hM_⟩ := hM_
 try rw [e9_] at hF
 refine From_store_row (by kernel_rfl : coreAt _ 0 = some (none, (.store 3 (.tmp 21) (.tmp 20)), 0, none)) hF (by kernel_rfl) (by kernel_rfl) (k' := 1) rfl (ad := (⟨g2, 0, none⟩ : Addr)) (j := (((q : Int)).toNat * 1)) (e := 3) (size := 1) (n := s.pl.length) (cap := pc) (v := (.int .i64 (qTop s.fr))) (xs := (ints s.pl)) (ad' := ((⟨g2, 0, none⟩ : Addr).add (((q : Int)).toNat * 1))) (by kernel_rfl) rfl (by kernel_rfl) (by kernel_rfl) rfl hM_ 2 rfl (by omega) ?_
 intro w2 hm2 _ a2 ea _
 refine From_end (by kernel_rfl) ?_; refine op_doneJ (d := none) (by kernel_rfl) ea rfl ?_
 show _
 exact ⟨e9_, hm2⟩
 intro aC w7 ls vs hall M8 hv fr
 simp only [show ls 12 = true from hall 12 (by decide)] at M8
 revert aC; refine zkp [] ?_
 obtain ⟨e9_, M8⟩ := M8
 try rw [e9_]
 clear e9_
 clear hall hv fr aC hM; clear vs ls
 refine zre <| zr0 ?_
 refine ⟨A, c, rfl, ?_⟩
 rw [giveS_pop (by omega)]
 exact M8.cast (by simp [gvL, ints_set, qPop_len])
 refine zsk <| zsq <| zkp [(0, (pT g 0)), (1, (nV q))] ?_
 intro aC fr
 refine zdt 9 (N := 39) (env0 := [(0, (pT g 0)), (1, (nV q))]) (specAt [.det (pT g 0), .det (pT g 0), .det (pT g 0), .det (.slice PA s.pl.length pc), .det (nV q), .det (pT g 0), .det (pT g 0), .det (pT g 2), .det (.int .i64 s.nx)]) fr (la (la (la (la (la (la (la (la (la lz dP) dP) dP) (dL ⟨g, 0, none⟩ (.slice PA s.pl.length pc) fun w_ hK => (blk_cell ((hM.then_ hK).get 0 rfl) rfl))) dP) dP) dP) dP) (dL ⟨g, 2, none⟩ (.int .i64 s.nx) fun w_ hK => (blk_cell ((hM.then_ hK).get 0 rfl) rfl))) ?_
 intro aC w13 vs hK hv fr
 revert aC; refine zkp [(0, (pT g 0)), (25, (.slice PA s.pl.length pc)), (26, (nV q)), (30, (.int .i64 s.nx))] ?_
 have M14 := hM.then_ hK
 clear hK hv fr aC hM; clear vs
 obtain ⟨g16, rfl⟩ := row_some (M14.get 2 rfl) (by omega)
 refine zix ⟨g16, 0, none⟩ s.pl.length 1 (q : Int) <| zsw M14 2 ((⟨g16, 0, none⟩ : Addr).add (((q : Int)).toNat * 1)) (((q : Int)).toNat * 1) (.int .i64 s.nx) rfl rfl (by omega) fun w17 M18 => ?_
 replace M18 := M18.nf
 refine zfe <| zrg <| zpn 3 <| zld ⟨g, 2, none⟩ (.int .i64 s.nx) (blk_cell (M18.get 0 rfl) rfl) <| zar (s.nx + 1) <| zpn 2 <| zsb (ho := (by simp)) M18 0 2 (.int .i64 (s.nx + 1)) rfl fun w19 M20 => ?_
 replace M20 := M20.nf
 refine zfe <| zo0 ?_
 refine ⟨A, c, rfl, ?_⟩
 rw [giveS_new (by omega)]
 exact M20.cast (by simp [gvL, ints_set])
theorem back_c (g : Nat) (PA : Option Addr) (pc : Nat) (A : Option Addr) (c : Nat) (s : GSt) (q : Nat) (w : World) (hG : (Res.pk (gvL g PA pc A c s)).holds w) (hpl : s.pl.length ≤ 100000) (hfl : s.fr.length ≤ 100000) (hq : q < s.pl.length) :
    Calls Tryd.prog 69 #[(pT g 0), (nV q)] w (Ret fun v w' => ∃ A' c', v = .tuple #[] ∧ Mem (Res.pk (gvL g PA pc A c s)).fp w w' (gvL g PA pc A' c' (backS s q))) := by
 refine zen 17 [(pT g 0), (nV q)] Tryd.func69 ?_
 have hM := Mem.unpk hG
 obtain ⟨x, hx⟩ := get_of (l := s.pl) (i := q) (by omega)
 have ex : s.pl.getD q 0 = x := by simp [List.getD, hx]
 obtain ⟨g1, rfl⟩ := row_some (hM.get 2 rfl) (by omega)
 obtain ⟨x, hx⟩ := get_of (l := s.pl) (i := q) (by omega)
 have ex : s.pl.getD q 0 = x := by simp [List.getD, hx]
 refine zkp [(0, (pT g 0)), (1, (nV q))] ?_
 intro aC fr
 refine zdj (N := 17) (env0 := [(0, (pT g 0)), (1, (nV q))]) (specAt [.det (pT g 0), .det (pT g 0), .det (pT g 1), .det (.iface 126 (pT g 1)), .det (pT g 0), .det (pT g 0), .det (pT g 0), .det (.slice (sM g1) s.pl.length pc), .det (nV q), .det (.pointer (some ((⟨g1, 0, none⟩ : Addr).add (((q : Int)).toNat * 1)))), .det (.int .i64 x), .det (.iface 3 (.int .i64 x)), Spec.free]) (fun ls vs w_ => match ls 12 with | true => (∃ (A2 : Option Addr) (c3 : Nat), vs 12 = (.tuple #[]) ∧ Mem (Res.pk (gvL g (sM g1) pc A c s)).fp w w_ [.blk g 70 [(.slice (sM g1) s.pl.length pc), (.slice A2 (s.fr.length + 1) c3), (.int .i64 s.nx)], .row 3 1 A2 (s.fr.length + 1) c3 (ints (qPush s.fr x)), .row 3 1 (sM g1) s.pl.length pc (ints s.pl)]) | false => (Mem (Res.pk (gvL g (sM g1) pc A c s)).fp w w_ [.blk g 70 [(.slice (sM g1) s.pl.length pc), (.slice A s.fr.length c), (.int .i64 s.nx)], .row 3 1 A s.fr.length c (ints s.fr), .row 3 1 (sM g1) s.pl.length pc (ints s.pl)])) fr (plain_ok (.det (.det (.det (.det (.det (.det (.det (.det (.det (.det (.det (.det (.free .nil)))))))))))))) (hM.then_ (Mem.drew _)) (la (la (la (la (la (la (la (la (la (la (la (la (la lz (dPJ fun _ _ _ _ h => h)) (dPJ fun _ _ _ _ h => h)) (dPJ fun _ _ _ _ h => h)) (dPJ fun _ _ _ _ h => h)) (dPJ fun _ _ _ _ h => h)) (dPJ fun _ _ _ _ h => h)) (dPJ fun _ _ _ _ h => h)) (dLJ ⟨g, 0, none⟩ (.slice (sM g1) s.pl.length pc) (fun _ _ _ _ h => h) ?_)) (dPJ fun _ _ _ _ h => h)) (dIJ ⟨g1, 0, none⟩ s.pl.length 1 (q : Int) fun _ _ _ _ h => h)) (dLJ ((⟨g1, 0, none⟩ : Addr).add (((q : Int)).toNat * 1)) (.int .i64 x) (fun _ _ _ _ h => h) ?_)) (dPJ fun _ _ _ _ h => h)) ?_) ?_
 intro w_ ls vs hJ hi_ hc_ hp
 have f12 : ls 12 = false := notyet hc_ hi_ (n := 13) (by kernel_rfl)
 have hM_ := hJ
 simp only [f12] at hM_
 exact (blk_cell (hM_.get 0 rfl) rfl)
 intro w_ ls vs hJ hi_ hc_ hp
 have f12 : ls 12 = false := notyet hc_ hi_ (n := 13) (by kernel_rfl)
 have hM_ := hJ
 simp only [f12] at hM_
 exact (rd_at (row_rd (hM_.get 2 rfl)) rfl hx)
 intro aa_ w_ ls vs rest_ hJ hi_ hc_ hp hF
 refine okG (g0 := none) ?_
 replace hF : Fr aa_ 17 [(7, (.iface 126 (pT g 1))), (15, (.iface 3 (.int .i64 x)))] := hF.kp [7, 15]
 have f12 : ls 12 = false := hi_
 have hM_ := hJ
 simp only [f12] at hM_
 refine From_call (by kernel_rfl : coreAt _ 0 = some (some 16, (.call { callee := (.value (.func 87)), args := #[(.tmp 7), (.tmp 15)], argTypes := #[137, 20] }), 0, none)) hF (by kernel_rfl) (by kernel_rfl) (k' := 1) rfl (f := 87) (vs := [(.iface 126 (pT g 1)), (.iface 3 (.int .i64 x))]) (cap := []) (by kernel_rfl) (by kernel_rfl) (by kernel_rfl) (push_c g (.slice (sM g1) s.pl.length pc) (.int .i64 s.nx) s.fr A c x w_ (by omega) (hM_.get 0 rfl) (hM_.get 1 rfl) (hM_.far (i := 0) (j := 1) rfl rfl (by decide))) ?_
 rintro _ w2 ⟨A2p, c3p, rfl, hm2⟩ a2 ea _
 have hm3 := hM_.mod2 hm2
 refine From_end (by kernel_rfl) ?_; refine op_doneJ (d := some 16) (by kernel_rfl) ea trivial ?_
 show ∃ (A2 : Option Addr) (c3 : Nat), _
 exact ⟨A2p, c3p, rfl, hm3⟩
 intro aC w8 ls vs hall M9 hv fr
 simp only [show ls 12 = true from hall 12 (by decide)] at M9
 revert aC; refine zkp [] ?_
 obtain ⟨A2, c3, e12_, M9⟩ := M9
 try rw [e12_]
 clear e12_
 clear hall hv fr aC hM; clear vs ls
 refine zo0 ?_
 exact ⟨A2, c3, rfl, M9.cast (by simp only [gvL, backS, ex, qPush_len])⟩
end Go.Proofs.YthgbejihcchcnaaDoor
namespace Go.Mor
open Go.RowKit
section
variable {n j : Nat} {l : List FIns} {E : Int → Bool}
end
end Go.Mor

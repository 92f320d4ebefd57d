/-
  Texts of the proof, part 11.
-/
import Derived.Test.YtejbeeaomokjpaaZA10
import Derived.Laws.IdiomCopy
import Derived.Laws.Cover3
import Derived.Laws.StructEq
import Derived.ChangeKeysEq
set_option maxRecDepth 10000
namespace Go.Mor
open Go.RowKit
section
variable {P : Program} {t : TypeId}
end
section
variable {k m : Nat}
end
section
variable {P : Program} {c : Code} {K : Act → World → Prop} {Q : Exit → Act → World → Prop} {a : Act} {w w0 : World} {S : Nat → Prop} {L : List Res} {k k' : Nat} {N : FN} {env : Env}
variable {d : Option Nat} {ty : Nat} {g : Option (Nat × Bool)}
end
end Go.Mor
namespace Go.Mor
open Go.RowKit
def bnE (c : Code) (N : FN) (env : Env) (k : Nat) : Option (Option Nat × BinOp × TypeId × Value × Value) := match coreAt c k with
  | some (d, .binOp op t x y _, _, g) => match guardE c g env, okd d N, ev env x, ev env y with
    | some true, true, some u, some v => some (d, op, t, u, v)
    | _, _, _, _ => none
  | _ => none
section
variable {P : Program} {c : Code} {Q : Exit → Act → World → Prop} {N : FN} {i : Nat} {env0 : Env} {wr : World} {sp : Nat → Spec}
end
end Go.Mor
namespace Go.Mor
open Go.RowKit
section
variable {P : Program} {c : Code} {K : Act → World → Prop} {Q : Exit → Act → World → Prop} {w w0 : World} {S : Nat → Prop} {L : List Res} {k : Nat} {N : FN} {env : Env}
end
section
variable {P : Program} {c : Code} {Q : Exit → Act → World → Prop} {N : FN} {i : Nat} {env0 : Env} {wr : World} {sp : Nat → Spec}
end
end Go.Mor
namespace Go.Mor
open Go.RowKit
def Apart (l : List Res) : Prop := l.Pairwise (fun r s => ∀ g, r.fp g → ¬ s.fp g)
def Res.pk (l : List Res) : Res where
  fp k := ∃ r, r ∈ l ∧ r.fp k
  holds w := (∀ r, r ∈ l → r.holds w) ∧ Apart l
  stable := fun h hw => ⟨fun r hr => r.stable (fun g hg => h g ⟨r, hr, hg⟩) (hw.1 r hr), hw.2⟩
  lt := fun ⟨h1, _⟩ ⟨r, hr, hg⟩ => r.lt (h1 r hr) hg
section
variable {S : Nat → Prop} {w0 w w' : World} {l l' L : List Res} {r : Res}
theorem Mem.unpk (h : (Res.pk l).holds w) : Mem (Res.pk l).fp w w l :=
  ⟨rfl, rfl, rfl, Nat.le_refl _, fun _ _ _ => rfl, fun r hr => ⟨h.1 r hr, fun _ hg => .inl ⟨r, hr, hg⟩⟩, h.2⟩
theorem Mem.pk_holds (h : Mem S w0 w (l ++ L)) : (Res.pk l).holds w := ⟨fun r hr => (h.own r (List.mem_append_left _ hr)).1, (List.pairwise_append.1 h.apart).1⟩
theorem Mem.pack (h : Mem S w0 w (l ++ L)) : Mem S w0 w (.pk l :: L) := by
  obtain ⟨h1, h2, h3⟩ := List.pairwise_append.1 h.apart
  refine ⟨h.os, h.tape, h.output, h.size, h.kept, fun r hr => ?_, List.pairwise_cons.2 ⟨?_, h2⟩⟩
  · rcases List.mem_cons.1 hr with rfl | hr
    · exact ⟨h.pk_holds, fun g ⟨q, hq, hg⟩ => (h.own q (List.mem_append_left _ hq)).2 g hg⟩
    · exact h.own r (List.mem_append_right _ hr)
  · rintro r hr g ⟨q, hq, hg⟩
    exact h3 q hq r hr g hg
theorem Mem.unpack (h : Mem S w0 w (.pk l :: L)) : Mem S w0 w (l ++ L) := by
  obtain ⟨h1, h2⟩ := List.pairwise_cons.1 h.apart
  obtain ⟨⟨h3, h4⟩, h5⟩ := h.own _ (List.mem_cons_self ..)
  refine ⟨h.os, h.tape, h.output, h.size, h.kept, fun r hr => ?_, List.pairwise_append.2 ⟨h4, h2, fun q hq r hr g hg => h1 r hr g ⟨q, hq, hg⟩⟩⟩
  rcases List.mem_append.1 hr with hr | hr
  · exact ⟨h3 r hr, fun g hg => h5 g ⟨r, hr, hg⟩⟩
  · exact h.own r (List.mem_cons_of_mem _ hr)
theorem Mem.mdk (h : Mem S w0 w (l ++ L)) (h' : Mem (Res.pk l).fp w w' l') : Mem S w0 w' (l' ++ L) := by
  have h1 : Mem (Res.pk l).fp w w' (l' ++ []) := by rw [List.append_nil]; exact h'
  have h2 := h.pack.mod 0 rfl h1.pack
  exact Mem.unpack (by simpa using h2)
theorem RO.pk_own (h : Mem S w0 w (l ++ L)) (i : Nat) (hi : L[i]? = some r) : RO (Res.pk l).fp w r := by
  have hm := List.mem_of_getElem? hi
  refine ⟨(h.own r (List.mem_append_right _ hm)).1, fun g hg ⟨q, hq, hgq⟩ => ?_⟩
  exact (List.pairwise_append.1 h.apart).2.2 q hq r hm g hgq hg
end
section
variable {P : Program} {c : Code} {K : Act → World → Prop} {Q : Exit → Act → World → Prop} {a : Act} {w w0 : World} {S : Nat → Prop} {L : List Res} {k k' : Nat} {N : FN} {env : Env} {d : Option Nat} {ty : Nat} {g : Option (Nat × Bool)}
end
end Go.Mor
namespace Go.Mor
open Go.RowKit
def tailOk (c : Code) (m : Nat) : Bool := (List.range (opsOf c).size).all fun i => Nat.blt i m || (List.range i).all (fun j => reach c (opsOf c).size i j)
theorem reach_lt {c : Code} (hpl : predsLt c = true) : ∀ {n j i : Nat}, j < (opsOf c).size → reach c n j i = true → i < j
  | 0, j, i, _, h => by simp [reach] at h
  | n + 1, j, i, hj, h => by
    have hp : ∀ k, k ∈ predsOf c j → k < j := by
      intro k hk
      simp only [predsLt, List.all_eq_true, List.mem_range] at hpl
      have := hpl j hj k hk
      simpa [Nat.blt_eq] using this
    simp only [reach, Bool.or_eq_true, List.any_eq_true] at h
    rcases h with h | ⟨k, hk, h⟩
    · exact hp i (memN_iff.1 h)
    · have h1 := hp k hk
      have := reach_lt hpl (by omega) h
      omega
theorem none_ready {c : Code} (hpl : predsLt c = true) {listed : Array Bool} (hsz : listed.size = (opsOf c).size) (hr : Region.ready .any (opsOf c) listed = []) : ∀ j, j < (opsOf c).size → listed.getD j false = true := by
  intro j
  induction j using Nat.strongRecOn with
  | _ j ih =>
    intro hj
    cases hq : listed.getD j false with
    | true => rfl
    | false =>
      exfalso
      have : j ∈ Region.ready .any (opsOf c) listed := by
        simp only [Region.ready, List.mem_filter, List.mem_range, Bool.and_eq_true, Bool.not_eq_true']
        have hjl : j < listed.size := by omega
        refine ⟨hj, ?_, ?_⟩
        · simp [Array.getD, hjl] at hq ⊢
          exact hq
        · have ho : (opsOf c)[j]? = some (opsOf c)[j] := by simp [hj]
          simp only [ho, Option.map_some, Option.getD_some]
          rw [Array.all_eq_true_iff_forall_mem]
          intro e he
          cases hb : Region.binds .any e with
          | false => rfl
          | true =>
            have hmem : e.on ∈ predsOf c j := by
              simp only [predsOf, ho, List.mem_map, List.mem_filter]
              exact ⟨e, ⟨Array.mem_toList_iff.2 he, hb⟩, rfl⟩
            have hlt : e.on < j := by
              simp only [predsLt, List.all_eq_true, List.mem_range] at hpl
              have := hpl j hj e.on hmem
              simpa [Nat.blt_eq] using this
            simp [ih e.on hlt (by omega)]
      rw [hr] at this
      simp at this
theorem ready_preds {c : Code} {listed : Array Bool} {i : Nat} (hr : i ∈ Region.ready .any (opsOf c) listed) : ∀ j, j ∈ predsOf c i → listed.getD j false = true := by
  obtain ⟨_, _, o, ho, hpre⟩ := ready_spec hr
  intro j hj
  simp only [predsOf, ho, List.mem_map, List.mem_filter] at hj
  obtain ⟨e, ⟨he, hb⟩, rfl⟩ := hj
  exact hpre e he hb
theorem ready_not {c : Code} {listed : Array Bool} (hsz : listed.size = (opsOf c).size) {i : Nat} (hr : i ∈ Region.ready .any (opsOf c) listed) : listed.getD i false = false := by
  obtain ⟨hlt, hnl, _⟩ := ready_spec hr
  have : i < listed.size := by omega
  simp [Array.getD, this] at hnl ⊢
  exact hnl
def restL (c : Code) (m : Nat) : Env → Env
  | [] => []
  | (t, v) :: r => match memN ((List.range m).filterMap (dstAt c)) t with
    | true => restL c m r
    | false => (t, v) :: restL c m r
theorem look_restL {c : Code} {m : Nat} : ∀ {env : Env} {t : Nat} {v : Value}, look (restL c m env) t = some v → (t, v) ∈ env ∧ ∀ j, j < m → dstAt c j ≠ some t
  | [], t, v, h => by simp [restL, look] at h
  | (k, u) :: r, t, v, h => by
    unfold restL at h
    cases hm : memN ((List.range m).filterMap (dstAt c)) k with
    | true =>
      rw [hm] at h
      obtain ⟨h1, h2⟩ := look_restL h
      exact ⟨List.mem_cons_of_mem _ h1, h2⟩
    | false =>
      rw [hm] at h
      simp only [look] at h
      cases hq : Nat.beq k t with
      | false =>
        rw [hq] at h
        obtain ⟨h1, h2⟩ := look_restL h
        exact ⟨List.mem_cons_of_mem _ h1, h2⟩
      | true =>
        rw [hq] at h
        injection h with h
        have := Nat.eq_of_beq_eq_true hq
        subst this
        subst h
        refine ⟨List.mem_cons_self .., fun j hj hdj => ?_⟩
        have : memN ((List.range m).filterMap (dstAt c)) k = true := memN_iff.2 (List.mem_filterMap.2 ⟨j, List.mem_range.2 hj, hdj⟩)
        rw [this] at hm
        cases hm
section
variable {P : Program} {c : Code} {K : Act → World → Prop} {Q : Exit → Act → World → Prop} {N : FN} {env0 : Env} {wr : World} {sp : Nat → Spec}
theorem lst_set {listed : Array Bool} {i j : Nat} (hi : i < listed.size) : (listed.setIfInBounds i true).getD j false = (decide (j = i) || listed.getD j false) := by
  by_cases e : i = j
  · subst e; simp [Array.getD_eq_getD_getElem?, hi]
  · have : ¬ j = i := fun h => e h.symm
    simp [Array.getD_eq_getD_getElem?, Array.getElem?_setIfInBounds_ne e, this]
theorem any_tail (hpl : predsLt c = true) {m : Nat} (ht : tailOk c m = true) : ∀ (n fuel k : Nat) (listed : Array Bool) (a : Act) (w : World), listed.size = (opsOf c).size → (opsOf c).size ≤ k + n → n ≤ fuel → m ≤ k → k ≤ (opsOf c).size →
    (∀ j, j < (opsOf c).size → listed.getD j false = decide (j < k)) → From P c K Q k a w → wpAny P .any (opsOf c) (Exit.then K Q) fuel listed a w := by
  intro n
  induction n with
  | zero =>
    intro fuel k listed a w hsz hs hf hmk hks hl h
    have hk : k = (opsOf c).size := by omega
    subst hk
    have hK : K a w := by
      unfold From at h
      rw [List.drop_eq_nil_of_le (by simp)] at h
      exact h
    have hno : ∀ i, ¬ i ∈ Region.ready .any (opsOf c) listed := fun i hi => by
      have h1 := ready_not hsz hi
      have h2 := (ready_spec hi).1
      rw [hl i h2] at h1
      simp [h2] at h1
    cases fuel with
    | zero => exact ⟨List.eq_nil_iff_forall_not_mem.2 hno, hK⟩
    | succ fuel => exact ⟨fun _ => hK, fun i hi => absurd hi (hno i)⟩
  | succ n ih =>
    intro fuel k listed a w hsz hs hf hmk hks hl h
    by_cases hk : k < (opsOf c).size
    · cases fuel with
      | zero => omega
      | succ fuel =>
        refine ⟨fun hr => ?_, fun i hi => ?_⟩
        · have := none_ready hpl hsz hr k hk
          rw [hl k hk] at this
          simp at this
        · have hin := ready_not hsz hi
          have hilt := (ready_spec hi).1
          have hik : i = k := by
            rw [hl i hilt] at hin
            have hge : k ≤ i := by simpa using hin
            rcases Nat.lt_or_eq_of_le hge with hgt | he
            · exfalso
              simp only [tailOk, List.all_eq_true, List.mem_range, Bool.or_eq_true] at ht
              have h1 : reach c (opsOf c).size i k = true := by
                rcases ht i hilt with h1 | h1
                · have : i < m := by simpa [Nat.blt_eq] using h1
                  omega
                · exact h1 k hgt
              cases hn : (opsOf c).size with
              | zero => omega
              | succ N' =>
                rw [hn] at h1
                simp only [reach, Bool.or_eq_true, List.any_eq_true] at h1
                rcases h1 with h1 | ⟨q, hq, h1⟩
                · have := ready_preds hi k (memN_iff.1 h1)
                  rw [hl k hk] at this
                  simp at this
                · have h2 := ready_preds hi q hq
                  have hqi : q < i := by
                    simp only [predsLt, List.all_eq_true, List.mem_range] at hpl
                    have := hpl i hilt q hq
                    simpa [Nat.blt_eq] using this
                  rw [hl q (by omega)] at h2
                  have h3 : q < k := by simpa using h2
                  have := reach_lt hpl (by omega) h1
                  omega
            · exact he.symm
          subst hik
          have ho : (opsOf c)[i]? = some (opsOf c)[i] := by simp [hk]
          generalize hoo : (opsOf c)[i] = o at ho
          unfold From at h
          rw [drop_at ho] at h
          unfold wpList at h
          have next : ∀ a' w', wpList P (opsOf c) (Exit.then K Q) ((opsOf c).toList.drop (i + 1)) a' w' → wpAny P .any (opsOf c) (Exit.then K Q) fuel (listed.setIfInBounds i true) a' w' := by
            intro a' w' h'
            refine ih fuel (i + 1) _ a' w' (by simpa using hsz) (by omega) (by omega) (by omega) (by omega) (fun j hj => ?_) h'
            rw [lst_set (by omega), hl j hj]
            by_cases e : j = i
            · subst e; simp
            · have : (j < i + 1) ↔ (j < i) := by omega
              simp [e, this]
          unfold wpOp
          rw [ho]
          simp only []
          split at h
          · rename_i hw
            rw [if_pos hw]
            exact h.imp (Oper.wp_mono next) id
          · rename_i hw
            rw [if_neg hw]
            exact next _ _ h
    · exact ih fuel k listed a w hsz (by omega) (by omega) hmk hks hl h
theorem draw_tail (hd : dstsOk c = true) (hdn : ∀ i d, dstAt c i = some d → d < N.n) (hpl : predsLt c = true) {m : Nat} (ht : tailOk c m = true) (hm : m ≤ (opsOf c).size) (hops : ∀ i, i < m → OpOK P c Q N env0 wr sp i)
    (hend : ∀ a w, (∀ listed : Array Bool, (∀ j, j < m → listed.getD j false = true) → (∀ j, m ≤ j → listed.getD j false = false) → Known c N env0 wr sp listed a w → From P c K Q m a w)) :
    ∀ (n fuel : Nat) (listed : Array Bool) (a : Act) (w : World), listed.size = (opsOf c).size → ((List.range (opsOf c).size).filter (fun j => !listed.getD j false)).length = n → n ≤ fuel → (∀ j, m ≤ j → listed.getD j false = false) → Known c N env0 wr sp listed a w →
      wpAny P .any (opsOf c) (Exit.then K Q) fuel listed a w := by
  intro n
  induction n using Nat.strongRecOn with
  | _ n ih =>
    intro fuel listed a w hsz hn hf hup hk
    by_cases hall : ∀ j, j < m → listed.getD j false = true
    · have hlen : (opsOf c).size ≤ m + n := by
        have h1 : ((List.range (opsOf c).size).filter (fun j => !listed.getD j false)).length = (opsOf c).size - m := by
          have e : (List.range (opsOf c).size).filter (fun j => !listed.getD j false) = (List.range (opsOf c).size).filter (fun j => decide (m ≤ j)) := by
            apply List.filter_congr
            intro j _
            by_cases hj : j < m
            · rw [hall j hj]; simp; omega
            · rw [hup j (by omega)]; simp; omega
          rw [e]
          have key : ∀ N, ((List.range N).filter (fun j => decide (m ≤ j))).length = N - m := by
            intro N
            induction N with
            | zero => simp
            | succ N ihN =>
              rw [List.range_succ, List.filter_append, List.length_append, ihN]
              by_cases h : m ≤ N
              · simp [h]; omega
              · simp [h]; omega
          exact key _
        omega
      refine any_tail hpl ht n fuel m listed a w hsz hlen hf (Nat.le_refl _) hm (fun j hj => ?_) (hend a w listed hall hup hk)
      by_cases h : j < m
      · rw [hall j h]; simp [h]
      · rw [hup j (by omega)]; simp [h]
    · have hpos : 0 < n := by
        rcases Nat.eq_zero_or_pos n with h0 | h0
        · exfalso
          apply hall
          intro j hj
          cases hq : listed.getD j false with
          | true => rfl
          | false =>
            have : j ∈ (List.range (opsOf c).size).filter (fun j => !listed.getD j false) := List.mem_filter.2 ⟨List.mem_range.2 (by omega), by rw [hq]; rfl⟩
            have := List.length_pos_of_mem this
            omega
        · exact h0
      cases fuel with
      | zero => omega
      | succ fuel =>
        refine ⟨fun hr => absurd (fun j hj => none_ready hpl hsz hr j (by omega)) hall, fun i hi => ?_⟩
        obtain ⟨h1, h2, _⟩ := ready_spec hi
        have him : i < m := by
          rcases Nat.lt_or_ge i m with h | h
          · exact h
          · exfalso
            apply hall
            intro j hj
            simp only [tailOk, List.all_eq_true, List.mem_range, Bool.or_eq_true] at ht
            have hre : reach c (opsOf c).size i j = true := by
              rcases ht i h1 with h3 | h3
              · have : i < m := by simpa [Nat.blt_eq] using h3
                omega
              · exact h3 j (by omega)
            exact donebefore (ls := fun q => listed.getD q false) (fun j hj q hq => hk.2.2.2.1 j hj q hq) (fun q hq => ready_preds hi q hq) hre
        have hni := ready_not hsz hi
        have hil : i < listed.size := by omega
        refine draw_step hd hdn (hops i him) hsz hi hk (fun a' w' hk' => ?_)
        have hlt : ((List.range (opsOf c).size).filter (fun j => !(listed.setIfInBounds i true).getD j false)).length < n := by
          rw [← hn]
          have hsub : ((List.range (opsOf c).size).filter (fun j => !(listed.setIfInBounds i true).getD j false)) = ((List.range (opsOf c).size).filter (fun j => !listed.getD j false)).filter (fun j => !(Nat.beq j i)) := by
            rw [List.filter_filter]
            apply List.filter_congr
            intro j _
            rw [lst_set hil]
            by_cases e : j = i
            · subst e; simp
            · have hb : Nat.beq j i = false := by
                cases hq : Nat.beq j i with
                | false => rfl
                | true => exact absurd (Nat.eq_of_beq_eq_true hq) e
              simp [e, hb]
          rw [hsub]
          have hmem : i ∈ (List.range (opsOf c).size).filter (fun j => !listed.getD j false) := List.mem_filter.2 ⟨List.mem_range.2 h1, by rw [hni]; rfl⟩
          exact List.length_filter_lt_length_iff_exists.2 ⟨i, hmem, by simp⟩
        refine ih _ hlt fuel _ a' w' (by simpa using hsz) rfl (by omega) (fun j hj => ?_) hk'
        rw [lst_set hil, hup j hj]
        have : j ≠ i := by omega
        simp [this]
theorem zdt (m : Nat) (sp : Nat → Spec) {a : Act} (hF : Fr a N env0) (hops : ∀ i, i < m → OpOK P c Q N env0 wr sp i)
    (h : ∀ a' w' (vs : Nat → Value), Kp wr w' → (∀ j, j < m → (sp j).ok (vs j) w') → Fr a' N (valsE c sp vs (List.range m) ++ restL c m env0) → From P c K Q m a' w')
    (ht : tailOk c m = true := by kernel_rfl) (hm' : Nat.ble m (opsOf c).size = true := by kernel_rfl)
    (hk : kind c = .region true := by kernel_rfl) (hm : P.follows .mixedOrders = true := by kernel_rfl) (hd : dstsOk c = true := by kernel_rfl) (hpl : predsLt c = true := by kernel_rfl) (hkeys : keysOk env0 = true := by kernel_rfl)
    (hdn : (List.range (opsOf c).size).all (fun i => okd (dstAt c i) N) = true := by kernel_rfl) : W P c K Q a wr := by
  have hdn' : ∀ i d, dstAt c i = some d → d < N.n := by
    intro i d hi
    have hlt : i < (opsOf c).size := by
      simp only [dstAt] at hi
      cases ho : (opsOf c)[i]? with
      | none => simp [ho] at hi
      | some o => exact (Array.getElem?_eq_some_iff.1 ho).1
    simp only [List.all_eq_true, List.mem_range] at hdn
    have := hdn i hlt
    rw [hi] at this
    simpa [okd, Nat.blt_eq] using this
  have hm2 := Nat.le_of_ble_eq_true hm'
  cases c <;> simp [kind] at hk
  rename_i id ops dr
  subst hk
  refine wp_region_any hm ?_
  have hrep : ∀ j, (Array.replicate ops.size false).getD j false = false := by
    intro j
    simp only [Array.getD_eq_getD_getElem?, Array.getElem?_replicate]
    split <;> rfl
  have h0 : Known (.region id ops true) N env0 wr sp (Array.replicate ops.size false) a { wr with drawn := wr.drawn + 1 } := by
    refine ⟨Mem.drew wr, hF.defers, hF.size, ?_, ⟨fun _ => undef, ?_⟩, fun t v htv _ => hF.slot t v (keys_look hkeys htv)⟩
    · intro j hj; rw [hrep j] at hj; cases hj
    · intro j hj; rw [hrep j] at hj; cases hj
  refine draw_tail (c := .region id ops true) hd hdn' hpl ht hm2 hops ?_ _ ops.size _ a _ (by simp [opsOf]) rfl ?_ (fun j _ => hrep j) h0
  · intro a' w' listed hall hup hk
    obtain ⟨hkp, hdef, hsz, _, ⟨vs, hvs⟩, hbase⟩ := hk
    refine h a' w' vs hkp (fun j hj => (hvs j (hall j hj)).1) ⟨hdef, hsz, fun t v hv => ?_⟩
    rcases look_append hv with h1 | h1
    · obtain ⟨j, hj, hdj, rfl⟩ := look_vals h1
      obtain ⟨h2, h3⟩ := hvs j (hall j (List.mem_range.1 hj))
      rw [Spec.val_ok h2]
      exact h3 t hdj
    · obtain ⟨h2, h3⟩ := look_restL h1
      refine hbase t v h2 (fun j hj => ?_)
      rcases Nat.lt_or_ge j m with hjm | hjm
      · exact h3 j hjm
      · rw [hup j hjm] at hj; cases hj
  · refine Nat.le_trans (List.length_filter_le _ _) ?_
    simp [opsOf]
variable {i : Nat}
end
end Go.Mor
namespace Go.Mor
open Go.RowKit
section
variable {P : Program} {c : Code} {K : Act → World → Prop} {Q : Exit → Act → World → Prop} {w w0 : World} {S : Nat → Prop} {L : List Res} {k : Nat} {N : FN} {env : Env}
end
section
variable {P : Program} {c : Code} {Q : Exit → Act → World → Prop} {N : FN} {i : Nat} {env0 : Env} {wr : World} {sp : Nat → Spec}
end
end Go.Mor
namespace Go.Mor
open Go.RowKit
section
variable {P : Program} {c : Code} {K : Act → World → Prop} {Q : Exit → Act → World → Prop} {w : World} {k : Nat} {N : FN} {env : Env}
end
end Go.Mor
namespace Go.Mor
end Go.Mor
namespace Go.Mor
open Go.RowKit
def slhE (P : Program) (c : Code) (N : FN) (env : Env) (k : Nat) : Option (Option Nat × Option Addr × Nat × Int) := match coreAt c k with
  | some (d, .slice t x none (some y) none, _, g) => match guardE c g env, okd d N, ev env x, ev env y, P.underlying t with
    | some true, true, some (.slice A _ cap), some (.int _ i), some (.slice e) => match (P.info? e).map (·.size) with
      | some _ => some (d, A, cap, i)
      | none => none
    | _, _, _, _, _ => none
  | _ => none
section
variable {P : Program} {c : Code} {K : Act → World → Prop} {Q : Exit → Act → World → Prop} {w w0 : World} {S : Nat → Prop} {L : List Res} {k : Nat} {N : FN} {env : Env}
theorem zhi {A : Option Addr} {cap : Nat} {i : Int} (m : Nat) (hi : i = (m : Int)) (hm : m ≤ cap) (h : ∀ a, Fr a N (putE env (dstAt c k) (.slice A m cap)) → From P c K Q (k + 1) a w) (hk : slhE P c N env k = some (dstAt c k, A, cap, i)) : ∀ a, Fr a N env → From P c K Q k a w := fun a hF => by
  unfold slhE at hk
  split at hk
  · rename_i h0
    split at hk
    · rename_i h1 h2 h3 h4 h5
      split at hk
      · rename_i sz h6
        simp only [Option.some.injEq, Prod.mk.injEq] at hk
        obtain ⟨rfl, rfl, rfl, rfl⟩ := hk
        exact From_sliceHi h0 hF h1 h2 rfl m h3 h4 hi h5 h6 hm (fun a' _ => h a')
      · cases hk
    · cases hk
  · cases hk
end
end Go.Mor
namespace Go.Mor
open Go.RowKit
section
variable {P : Program} {c : Code} {K : Act → World → Prop} {Q : Exit → Act → World → Prop} {w w0 : World} {S : Nat → Prop} {L : List Res} {k k' : Nat} {N : FN} {env : Env}
end
end Go.Mor
namespace Go.Mor
open Go.RowKit
section
variable {P : Program} {c : Code} {w w0 : World} {S : Nat → Prop} {L : List Res} {k : Nat} {N : FN} {env : Env}
end
section
variable {P : Program} {c : Code} {K : Act → World → Prop} {Q : Exit → Act → World → Prop} {w : World} {k : Nat} {N : FN} {env : Env}
end
theorem RO.nil_ {S : Nat → Prop} {w : World} : RO S w (.rd none []) := ⟨fun j v h => by simp at h, fun g hg => absurd rfl hg.1⟩
end Go.Mor
namespace Go.Mor
open Go.RowKit
section
variable {P : Program} {c : Code} {K : Act → World → Prop} {Q : Exit → Act → World → Prop} {w w0 : World} {S : Nat → Prop} {L : List Res} {k : Nat} {N : FN} {env : Env}
end
section
variable {P : Program} {fn : Func} {w : World} {N : FN} {env : Env} {Φ : Value → World → Prop}
end
end Go.Mor
namespace Go.Mor
open Go.RowKit
section
variable {S : Nat → Prop} {w0 w : World} {l l' L : List Res} {r r' : Res} {k : Nat}
theorem Mem.pk_nil (h : Mem S w0 w L) : Mem S w0 w (.pk [] :: L) := Mem.pack (l := []) h
theorem Mem.pk_cons (h : Mem S w0 w (.pk (r :: l) :: L)) : Mem S w0 w (r :: .pk l :: L) :=
  ((Mem.pack (l := l) (h.unpack.perm ((List.perm_middle (a := r) (l₁ := l) (l₂ := L)).symm))).perm (List.Perm.swap ..) : _)
theorem Mem.pk_push (h : Mem S w0 w (.pk l :: r :: L)) : Mem S w0 w (.pk (l ++ [r]) :: L) :=
  Mem.pack (l := l ++ [r]) (by simpa using h.unpack)
theorem Mem.pk_sub (h : Mem S w0 w (.pk l :: L)) (hs : l'.Sublist l) : Mem S w0 w (.pk l' :: L) := by
  have h1 := h.unpack
  have h2 := List.pairwise_append.1 h1.apart
  exact Mem.pack (l := l') ⟨h1.os, h1.tape, h1.output, h1.size, h1.kept, fun r hr => h1.own r (by
    rcases List.mem_append.1 hr with hr | hr
    · exact List.mem_append_left _ (hs.subset hr)
    · exact List.mem_append_right _ hr), h1.apart.sublist (hs.append_right L)⟩
theorem Mem.nilpk (w : World) : Mem noS w w [.pk []] := Mem.pk_nil (Mem.init w)
theorem len_snoc {α : Type} (l : List α) (x : α) : (l ++ [x]).length = l.length + 1 := by simp
theorem map_snoc {α β : Type} (f : α → β) (l : List α) (x : α) : (l ++ [x]).map f = l.map f ++ [f x] := by simp
theorem rd_none_nil {w : World} {l : List Int} (h : (Res.rd none (ints l)).holds w) : l = [] := by
  cases l with
  | nil => rfl
  | cons x l => obtain ⟨ad, h1, _⟩ := h 0 _ rfl; cases h1
theorem drop_map_at {α β : Type} (f : α → β) {l : List α} {k : Nat} {x : α} (h : l[k]? = some x) : (l.drop k).map f = f x :: (l.drop (k + 1)).map f := by
  obtain ⟨hk, he⟩ := List.getElem?_eq_some_iff.1 h
  rw [List.drop_eq_getElem_cons hk, he, List.map_cons]
theorem rd_bool_ {w : World} {A : Option Addr} {ad : Addr} {l : List Bool} (h : (Res.rd A (bools l)).holds w) (hA : A = some ad) {i : Int} (h0 : 0 ≤ i) (h1 : i < l.length) :
    w.cell? (ad.add (i.toNat * 1)) = some (.bool (l.getD i.toNat false)) := rd_get1 h hA (bools_get (by omega))
theorem pk_of {w : World} {l : List Res} {r : Res} (h : (Res.pk l).holds w) (hr : r ∈ l) : r.holds w := h.1 r hr
theorem RO.pk_sub (h : RO S w (.pk l)) (hr : r ∈ l) : RO S w r := ⟨h.1.1 r hr, fun g hg => h.2 g ⟨r, hr, hg⟩⟩
end
section
variable {P : Program} {c : Code} {K : Act → World → Prop} {Q : Exit → Act → World → Prop} {w w0 : World} {S : Nat → Prop} {L : List Res} {k : Nat} {N : FN} {env : Env} {a : Act}
theorem zB0 (d : Nat) (t : TypeId) (ty : TypeId) (hF : Fr a N env) {e size : Nat} (hM : Mem S w0 w L)
    (h : ∀ b w', w0.heap.size ≤ b → w.heap.size ≤ b → Mem S w0 w' (L ++ [.row e size (some ⟨b, 0, none⟩) 0 0 []]) → Mem noS w w' [.row e size (some ⟨b, 0, none⟩) 0 0 []] →
      ∀ a', a' = a.put (some d) (.slice (some ⟨b, 0, none⟩) 0 0) → Fr a' N (putE env (some d) (.slice (some ⟨b, 0, none⟩) 0 0)) → From P c K Q (k + 1) a' w')
    (hk : coreAt c k = some (some d, .buildSlice t 0 #[], ty, none) := by kernel_rfl) (hd : okd (some d) N = true := by kernel_rfl) (ht : P.underlying t = some (.slice e) := by kernel_rfl)
    (hi : (P.info? e).map (fun i => i.size) = some size := by kernel_rfl) : From P c K Q k a w :=
  From_build0 hk hF rfl hd rfl ht hi hM h
end
theorem zeroCells_many (zs : List Value) (n : Nat) (hz : 0 < zs.length) : (Builtin.zeroCells zs.toArray n).toList = (List.replicate n zs).flatten := by
  have := toList_madeCells zs n hz
  exact this
section
variable {P : Program} {c : Code} {K : Act → World → Prop} {Q : Exit → Act → World → Prop} {a : Act} {w w0 : World} {S : Nat → Prop} {L : List Res} {k k' : Nat} {N : FN} {env : Env}
variable {d : Option Nat} {ty : Nat} {g : Option (Nat × Bool)}
theorem From_clearS {t : TypeId} {x : Operand} (hk : coreAt c k = some (d, .call { callee := .builtin .clear, args := #[x], argTypes := #[t] }, ty, g)) (hF : Fr a N env) (hg : guardE c g env = some true) (hd : okd d N = true) (hk' : k + 1 = k')
    {e size : Nat} {z : Value} {zs : List Value} (ht : P.underlying t = some (.slice e)) (hi : (P.info? e).map (fun i => (i.size, i.zero)) = some (size, some z)) (hz : z.cells = zs.toArray) (hzl : zs.length = size) (h0 : 0 < size) (h1 : ∀ v ∈ zs, v.oneCell' = true)
    {ad : Addr} {off m cap' n cap : Nat} {xs : List Value} (hx : ev env x = some (.slice (some (ad.add (off * size))) m cap'))
    (hM : Mem S w0 w L) (i : Nat) (hL : L[i]? = some (.row e size (some ad) n cap xs)) (hm : off + m ≤ n)
    (h : ∀ w', Mem S w0 w' (L.set i (.row e size (some ad) n cap (xs.take (off * size) ++ (List.replicate m zs).flatten ++ xs.drop ((off + m) * size)))) → True → ∀ a', a' = a.put d undef → Fr a' N (putE env d undef) → From P c K Q k' a' w') : From P c K Q k a w := by
  subst hk'
  have hrow := hM.get i hL
  have hlen := row_len hrow
  have hfl : ((List.replicate m zs).flatten).length = m * size := by simp [hzl]
  have hle : (off + m) * size ≤ n * size := Nat.mul_le_mul_right size hm
  rw [Nat.add_mul] at hle
  obtain ⟨w', hr, hmm⟩ := storeCells_row (P := P) ((List.replicate m zs).flatten) (off * size) 0 (by
    intro v hv
    obtain ⟨l, hl, hv⟩ := List.mem_flatten.1 hv
    rw [List.eq_of_mem_replicate hl] at hv
    exact h1 v hv) hrow (by rw [hfl]; omega)
  simp only [Nat.add_zero, hfl, ← Nat.add_mul] at hmm
  refine From_val hk hF hg (v := undef) (w' := w') (fun o ho hty => ?_) (h w' (by simpa using hM.mod i hL hmm) trivial _ rfl (hF.put hd _))
  unfold execOp
  rw [ho]
  cases hi' : P.info? e with
  | none => simp [hi'] at hi
  | some inf =>
    simp only [hi', Option.map_some, Option.some.injEq, Prod.mk.injEq] at hi
    obtain ⟨hs, hzz⟩ := hi
    have hz0 : (zeroValue e).run P w = .ok z w := by simp [zeroValue, typeInfo, hi', hzz]
    simp only [resolve, invoke, builtin, Sem.run_bind, Sem.run_pure, Result.andThen_ok, List.map_toArray, List.map_cons, List.map_nil, hF.ev hx, Builtin.clear_]
    simp only [show (#[t] : Array TypeId)[0]? = some t from rfl, show (#[Value.slice (some (ad.add (off * size))) m cap'] : Array Value)[0]? = some (.slice (some (ad.add (off * size))) m cap') from rfl, Sem.run_bind, run_underlying ht, Result.andThen_ok]
    cases m with
    | zero =>
      simp only [List.replicate_zero, List.flatten_nil, storeCells, Sem.run_pure, Result.ok.injEq, true_and] at hr
      subst hr
      simp [undef]
    | succ m =>
      simp only [Sem.run_bind, hz0, Result.andThen_ok, hz, zeroCells_many zs _ (by omega), hr]
      rfl
end
theorem results_ct {fn : Func} {t u : Tmp} {ty : TypeId} (h : fn.results = #[.cell t ty, .tmp u]) (tmps : Array Value) (P : Program) (w : World) {ad : Addr} {vs : List Value} {v' : Value} (hp : tmps[t]? = some (.pointer (some ad))) (hq : tmps[u]? = some v') (ht : aggT P ty = some vs.length)
    (hc : ∀ (j : Nat) (v : Value), vs[j]? = some v → w.cell? (ad.add j) = some v) : (results fn tmps).run P w = .ok (.tuple #[.agg vs.toArray, v']) w := by
  obtain ⟨h1, h2⟩ := isAgg_agg ht w
  have ha : (asAddr (.pointer (some ad))).run P w = .ok ad w := rfl
  have hl : (loadVar ty ad).run P w = .ok (.agg vs.toArray) w := by simp [loadVar, h1, h2, run_loadCells_list (P := P) w ad vs hc]
  simp only [results, h]
  simp [Sem.run_bind, Result.andThen, Array.getD_eq_getD_getElem?, hp, hq, ha, hl]
def ctE (fn : Func) (env : Env) : Option (Addr × TypeId × Value) := match fn.results.toList with
  | [.cell t ty, .tmp u] => match look env t, look env u with
    | some (.pointer (some ad)), some v => some (ad, ty, v)
    | _, _ => none
  | _ => none
theorem zoct {P : Program} {fn : Func} {Φ : Value → World → Prop} {N : FN} {env : Env} {w : World} (ad : Addr) (ty : TypeId) (vs : List Value) (v' : Value) (hc : ∀ (j : Nat) (v : Value), vs[j]? = some v → w.cell? (ad.add j) = some v) (h : Φ (.tuple #[.agg vs.toArray, v']) w)
    (ht : aggT P ty = some vs.length := by kernel_rfl) (hk : ctE fn env = some (ad, ty, v') := by kernel_rfl) (hD : N.D = [] := by rfl) : ∀ a, Fr a N env → bodyPost P fn (Ret Φ) .ret a w := fun a hF => by
  unfold ctE at hk
  split at hk
  · rename_i t ty0 u hr
    split at hk
    · rename_i ad0 v0 h1 h2
      simp only [Option.some.injEq, Prod.mk.injEq] at hk
      obtain ⟨rfl, rfl, rfl⟩ := hk
      refine bodyPost_ret (v := .tuple #[.agg vs.toArray, v0]) ?_ (hF.defers.trans hD) ⟨_, rfl, h⟩
      refine results_ct (by apply Array.ext'; simpa using hr) _ _ _ ?_ ?_ ht hc
      · exact hF.slot _ _ h1
      · exact hF.slot _ _ h2
    · cases hk
  · cases hk
end Go.Mor
namespace Go.Mor
open Go.RowKit
section
variable {P : Program} {c : Code} {K : Act → World → Prop} {Q : Exit → Act → World → Prop} {a : Act} {w w0 : World} {S : Nat → Prop} {L : List Res} {k k' : Nat} {N : FN} {env : Env}
variable {d : Option Nat} {ty : Nat} {g : Option (Nat × Bool)}
end
theorem setAt_next : ∀ (vs xs : List Value) (u : Value) (j : Nat), setAt (u :: xs) (j + 1) vs = u :: setAt xs j vs
  | [], _, _, _ => rfl
  | v :: vs, xs, u, j => by
    show setAt (u :: xs.set j v) (j + 1 + 1) vs = u :: setAt (xs.set j v) (j + 1) vs
    exact setAt_next vs (xs.set j v) u (j + 1)
theorem setAt_here : ∀ (vs xs ys : List Value), vs.length = xs.length → setAt (xs ++ ys) 0 vs = vs ++ ys
  | [], xs, ys, h => by
    obtain rfl : xs = [] := List.eq_nil_of_length_eq_zero h.symm
    rfl
  | v :: vs, [], ys, h => by simp at h
  | v :: vs, x :: xs, ys, h => by
    show setAt (v :: (xs ++ ys)) 1 vs = v :: (vs ++ ys)
    rw [← setAt_here vs xs ys (by simpa using h)]
    exact setAt_next vs (xs ++ ys) v 0
theorem setAt_pre : ∀ (us xs vs : List Value) (j : Nat), setAt (us ++ xs) (us.length + j) vs = us ++ setAt xs j vs
  | [], xs, vs, j => by simp
  | u :: us, xs, vs, j => by
    rw [show (u :: us).length + j = (us.length + j) + 1 by simp; omega, List.cons_append, setAt_next, setAt_pre us xs vs j, List.cons_append]
theorem setAt_flat {α : Type} {f : α → List Value} {k : Nat} (hf : ∀ x, (f x).length = k) (y : α) : ∀ (l : List α) (m : Nat), m < l.length → setAt (l.flatMap f) (m * k) (f y) = (l.set m y).flatMap f
  | [], m, h => by simp at h
  | x :: l, 0, _ => by
    rw [List.flatMap_cons, Nat.zero_mul, setAt_here _ _ _ (by rw [hf, hf])]
    rfl
  | x :: l, m + 1, h => by
    rw [List.flatMap_cons, show (m + 1) * k = (f x).length + m * k by rw [hf, Nat.succ_mul]; omega, setAt_pre, setAt_flat hf y l m (by simpa using h)]
    rfl
theorem flat_len {α : Type} {f : α → List Value} {k : Nat} (hf : ∀ x, (f x).length = k) (l : List α) : (l.flatMap f).length = l.length * k := by
  induction l with
  | nil => simp
  | cons x l ih => rw [List.flatMap_cons, List.length_append, hf, ih, List.length_cons, Nat.succ_mul]; omega
theorem flat_at {α : Type} {f : α → List Value} {k : Nat} (hf : ∀ x, (f x).length = k) : ∀ (l : List α) (i : Nat) (x : α), l[i]? = some x → ∀ (j : Nat) (v : Value), (f x)[j]? = some v → (l.flatMap f)[i * k + j]? = some v
  | [], i, x, h, _, _, _ => by simp at h
  | y :: l, 0, x, h, j, v, hv => by
    simp at h
    subst h
    rw [List.flatMap_cons, Nat.zero_mul, Nat.zero_add, List.getElem?_append_left (List.getElem?_eq_some_iff.1 hv).1]
    exact hv
  | y :: l, i + 1, x, h, j, v, hv => by
    simp at h
    rw [List.flatMap_cons, List.getElem?_append_right (by rw [hf, Nat.succ_mul]; omega), hf, show (i + 1) * k + j - k = i * k + j by rw [Nat.succ_mul]; omega]
    exact flat_at hf l i x h j v hv
end Go.Mor
namespace Go.Mor
open Go.RowKit
def argP (p : FPhi) : Res := .row 3 1 p.A p.args.length p.c (ints p.args)
def argI (p : FIns) : Res := .row 3 1 p.A p.args.length p.c (ints p.args)
def phC (l : List FPhi) : List Value := l.flatMap FPhi.cells
def inC (l : List FIns) : List Value := l.flatMap FIns.cells
def blC (l : List FBlk) : List Value := l.flatMap xV
def phR (A : Option Addr) (c : Nat) (l : List FPhi) : Res := .row 79 2 A l.length c (phC l)
def inR' (A : Option Addr) (c : Nat) (l : List FIns) : Res := .row 39 5 A l.length c (inC l)
def blR (A : Option Addr) (c : Nat) (l : List FBlk) : Res := .row 36 6 A l.length c (blC l)
abbrev ownL (x : FBlk) : List Res := [phR x.pA x.pc x.phis, inR' x.iA x.ic x.insts, .pk (x.phis.map argP), .pk (x.insts.map argI)]
def ownB (x : FBlk) : Res := .pk (ownL x)
abbrev ownF (A : Option Addr) (c : Nat) (fs : List FBlk) : List Res := [blR A c fs, .pk (fs.map ownB)]
theorem phC_snoc (l : List FPhi) (x : FPhi) : phC (l ++ [x]) = phC l ++ x.cells := by simp [phC]
theorem inC_snoc (l : List FIns) (x : FIns) : inC (l ++ [x]) = inC l ++ x.cells := by simp [inC]
theorem blC_snoc (l : List FBlk) (x : FBlk) : blC (l ++ [x]) = blC l ++ xV x := by simp [blC]
theorem phi_cells_len (p : FPhi) : p.cells.length = 2 := rfl
theorem ins_cells_len (p : FIns) : p.cells.length = 5 := rfl
theorem xV_len (x : FBlk) : (xV x).length = 6 := rfl
theorem rd_rds {α : Type} {f : α → List Value} {k : Nat} (hf : ∀ x, (f x).length = k) {w : World} {A : Option Addr} {l : List α} (hk : 0 < k) (h : (Res.rd A (l.flatMap f)).holds w) : (Res.rds A k (l.map f)).holds w := by
  intro i cs hi
  rw [List.getElem?_map, Option.map_eq_some_iff] at hi
  obtain ⟨x, hx, rfl⟩ := hi
  have h0 : ∃ v, (f x)[0]? = some v := ⟨_, List.getElem?_eq_getElem (by rw [hf]; exact hk)⟩
  obtain ⟨v0, hv0⟩ := h0
  obtain ⟨ad, hA, _⟩ := h _ v0 (flat_at hf l i x hx 0 v0 hv0)
  refine ⟨ad, hA, fun j v hj => ?_⟩
  obtain ⟨ad', hA', hc⟩ := h _ v (flat_at hf l i x hx j v hj)
  rw [hA] at hA'
  injection hA' with hA'
  subst hA'
  rw [addr_add]
  exact hc
theorem own_reads {w : World} {A : Option Addr} {c : Nat} {fs : List FBlk} (h1 : (blR A c fs).holds w) (h2 : (Res.pk (fs.map ownB)).holds w) : (Res.fn A fs).holds w := by
  intro r hr
  rcases List.mem_cons.1 hr with rfl | hr
  · have := rd_rds (f := xV) xV_len (by omega) (row_rd h1)
    unfold Res.blocks
    rw [show (bsOf fs).map SB.cells = fs.map xV by unfold bsOf; rw [List.map_map]; rfl]
    exact this
  · obtain ⟨x, hx, hr⟩ := List.mem_flatMap.1 hr
    have hb : (ownB x).holds w := pk_of h2 (List.mem_map.2 ⟨x, hx, rfl⟩)
    have b1 : (phR x.pA x.pc x.phis).holds w := pk_of hb (by simp)
    have b2 : (inR' x.iA x.ic x.insts).holds w := pk_of hb (by simp)
    have b3 : (Res.pk (x.phis.map argP)).holds w := pk_of hb (by simp)
    have b4 : (Res.pk (x.insts.map argI)).holds w := pk_of hb (by simp)
    unfold FBlk.parts at hr
    rcases List.mem_cons.1 hr with rfl | hr
    · exact rd_rds phi_cells_len (by omega) (row_rd b1)
    rcases List.mem_cons.1 hr with rfl | hr
    · exact rd_rds ins_cells_len (by omega) (row_rd b2)
    rcases List.mem_append.1 hr with hr | hr
    · obtain ⟨p, hp, rfl⟩ := List.mem_map.1 hr
      exact row_rd (pk_of b3 (List.mem_map.2 ⟨p, hp, rfl⟩))
    · obtain ⟨p, hp, rfl⟩ := List.mem_map.1 hr
      exact row_rd (pk_of b4 (List.mem_map.2 ⟨p, hp, rfl⟩))
theorem e0_take {fs : List FBlk} {gd : List FBlk} {k : Nat} {x y : FBlk} (h : gd.map FBlk.e0 = (fs.take k).map FBlk.e0) (hx : fs[k]? = some x) (hy : y.e0 = x.e0) : (gd ++ [y]).map FBlk.e0 = (fs.take (k + 1)).map FBlk.e0 := by
  obtain ⟨hk, he⟩ := List.getElem?_eq_some_iff.1 hx
  rw [List.map_append, h, List.take_succ_eq_append_getElem hk, List.map_append, he]
  simp [hy]
theorem p0_take {l : List FPhi} {d : List FPhi} {k : Nat} {x y : FPhi} (h : d.map FPhi.e0 = (l.take k).map FPhi.e0) (hx : l[k]? = some x) (hy : y.e0 = x.e0) : (d ++ [y]).map FPhi.e0 = (l.take (k + 1)).map FPhi.e0 := by
  obtain ⟨hk, he⟩ := List.getElem?_eq_some_iff.1 hx
  rw [List.map_append, h, List.take_succ_eq_append_getElem hk, List.map_append, he]
  simp [hy]
theorem i0_take {l : List FIns} {d : List FIns} {k : Nat} {x y : FIns} (h : d.map FIns.e0 = (l.take k).map FIns.e0) (hx : l[k]? = some x) (hy : y.e0 = x.e0) : (d ++ [y]).map FIns.e0 = (l.take (k + 1)).map FIns.e0 := by
  obtain ⟨hk, he⟩ := List.getElem?_eq_some_iff.1 hx
  rw [List.map_append, h, List.take_succ_eq_append_getElem hk, List.map_append, he]
  simp [hy]
theorem map_len' {α β γ : Type} {f : α → γ} {g : β → γ} {l : List α} {m : List β} (h : l.map f = m.map g) : l.length = m.length := by simpa using congrArg List.length h
theorem map_len {α β : Type} {f : α → β} {l m : List α} (h : l.map f = m.map f) : l.length = m.length := by simpa using congrArg List.length h
structure FSm (fs : List FBlk) : Prop where
  lp : ∀ x, x ∈ fs → x.phis.length ≤ 20000
  li : ∀ x, x ∈ fs → x.insts.length ≤ 20000
  ap : ∀ x, x ∈ fs → ∀ p, p ∈ x.phis → p.args.length ≤ 20000
  ai : ∀ x, x ∈ fs → ∀ p, p ∈ x.insts → p.args.length ≤ 20000
structure GPhi where
  dst : Int
  fA : Option Addr
  fc : Nat
  from_ : List Int
  aA : Option Addr
  ac : Nat
  args : List Int
def GPhi.cells (p : GPhi) : List Value := [.int .i64 p.dst, .slice p.fA p.from_.length p.fc, .slice p.aA p.args.length p.ac]
abbrev gpV (p : GPhi) : List Value := [.int .i64 p.dst, .slice p.fA p.from_.length p.fc, .slice p.aA p.args.length p.ac]
structure GBlk where
  g : Nat
  pA : Option Addr
  pc : Nat
  phis : List GPhi
  iA : Option Addr
  ic : Nat
  insts : List FIns
  e : Int
  v : Int
  a : Int
  b : Int
  gone : Bool
abbrev gV (x : GBlk) : List Value := [.slice x.pA x.phis.length x.pc, .slice x.iA x.insts.length x.ic, .int .i64 x.e, .int .i64 x.v, .int .i64 x.a, .int .i64 x.b, .bool x.gone]
def frmP (p : GPhi) : Res := .row 3 1 p.fA p.from_.length p.fc (ints p.from_)
def argG (p : GPhi) : Res := .row 3 1 p.aA p.args.length p.ac (ints p.args)
def gpC (l : List GPhi) : List Value := l.flatMap GPhi.cells
def gpR (A : Option Addr) (c : Nat) (l : List GPhi) : Res := .row 67 3 A l.length c (gpC l)
abbrev gL (x : GBlk) : List Res := [.blk x.g 65 (gV x), gpR x.pA x.pc x.phis, inR' x.iA x.ic x.insts, .pk (x.phis.map frmP), .pk (x.phis.map argG), .pk (x.insts.map argI)]
def gB (x : GBlk) : Res := .pk (gL x)
theorem gpC_snoc (l : List GPhi) (x : GPhi) : gpC (l ++ [x]) = gpC l ++ x.cells := by simp [gpC]
def ptrs (gs : List GBlk) : List Value := gs.map (fun x => .pointer (some ⟨x.g, 0, none⟩))
def ptR (A : Option Addr) (c : Nat) (gs : List GBlk) : Res := .row 62 1 A gs.length c (ptrs gs)
abbrev gF (q : Nat) (nm : ByteArray) (wk : Bool) (pa va : Int) (bA : Option Addr) (bn bc : Nat) (A : Option Addr) (c : Nat) (gs : List GBlk) : List Res :=
  [.blk q 61 [.string nm, .bool wk, .int .i64 pa, .int .i64 va, .slice bA bn bc, .slice A gs.length c], ptR A c gs, .pk (gs.map gB)]
end Go.Mor
namespace Go.Mor
open Go.RowKit
structure KPhi where
  dst : Int
  from_ : List Int
  args : List Int
structure KBlk where
  phis : List KPhi
  insts : List FIns
  e : Int
  v : Int
  a : Int
  b : Int
  gone : Bool
def GPhi.k (p : GPhi) : KPhi := ⟨p.dst, p.from_, p.args⟩
def GBlk.k (x : GBlk) : KBlk := ⟨x.phis.map GPhi.k, x.insts.map FIns.e0, x.e, x.v, x.a, x.b, x.gone⟩
def fromP (s : List Int) (p : FPhi) : KPhi := ⟨p.dst, s, p.args⟩
def fromB (fs : List FBlk) (k : Nat) (x : FBlk) : KBlk := ⟨x.phis.map (fromP (srcs (bsOf fs) (k : Int))), x.insts.map FIns.e0, x.e, x.v, x.a, x.b, false⟩
def fromK (fs : List FBlk) : List KBlk := fs.zipIdx.map (fun p => fromB fs p.2 p.1)
section
variable {fs gs : List FBlk} {k : Nat} {x : FBlk}
theorem fromK_get (h : fs[k]? = some x) : (fromK fs)[k]? = some (fromB fs k x) := by
  unfold fromK
  rw [List.getElem?_map, List.getElem?_zipIdx, h]
  simp
theorem fromK_len (fs : List FBlk) : (fromK fs).length = fs.length := by simp [fromK]
theorem fromK_next {l : List GBlk} {y : GBlk} (hl : l.map GBlk.k = (fromK fs).take k) (hx : fs[k]? = some x) (hy : y.k = fromB fs k x) : (l ++ [y]).map GBlk.k = (fromK fs).take (k + 1) := by
  obtain ⟨h1, h2⟩ := List.getElem?_eq_some_iff.1 (fromK_get hx)
  rw [List.map_append, hl, List.take_succ_eq_append_getElem h1, h2, ← hy]
  rfl
theorem fromP_next {s : List Int} {l : List FPhi} {d : List GPhi} {j : Nat} {p : FPhi} {y : GPhi} (hl : d.map GPhi.k = (l.take j).map (fromP s)) (hp : l[j]? = some p) (hy : y.k = fromP s p) : (d ++ [y]).map GPhi.k = (l.take (j + 1)).map (fromP s) := by
  obtain ⟨h1, h2⟩ := List.getElem?_eq_some_iff.1 hp
  rw [List.map_append, hl, List.take_succ_eq_append_getElem h1, List.map_append, h2]
  simp [hy]
theorem fromK_alike (h : AlikeF gs fs) : fromK gs = fromK fs := by
  have hs := srcs_ends (e0_ends h)
  refine List.ext_getElem? fun k => ?_
  cases hx : fs[k]? with
  | none =>
    have : gs[k]? = none := by rw [List.getElem?_eq_none_iff] at hx ⊢; rw [h.len]; exact hx
    rw [List.getElem?_eq_none_iff] at hx this
    rw [List.getElem?_eq_none (by rw [fromK_len]; exact this), List.getElem?_eq_none (by rw [fromK_len]; exact hx)]
  | some x =>
    obtain ⟨y, hy, e⟩ := e0_get h.symm hx
    rw [fromK_get hx, fromK_get hy]
    unfold fromB
    rw [hs, e0_e e, e0_v e, e0_a e, e0_b e]
    have e1 := e0_insts e
    have e2 : ∀ s, y.phis.map (fromP s) = x.phis.map (fromP s) := by
      intro s
      have : fromP s = fromP s ∘ FPhi.e0 := rfl
      rw [this, ← List.map_map, ← List.map_map, e0_phis e]
    rw [e1, e2]
theorem FSm.alike (h : AlikeF gs fs) (hs : FSm fs) : FSm gs := by
  have key : ∀ x, x ∈ gs → ∃ y, y ∈ fs ∧ x.e0 = y.e0 := by
    intro x hx
    obtain ⟨k, hk⟩ := List.mem_iff_getElem?.1 hx
    obtain ⟨y, hy, e⟩ := e0_get h hk
    exact ⟨y, List.mem_of_getElem? hy, e⟩
  refine ⟨fun x hx => ?_, fun x hx => ?_, fun x hx p hp => ?_, fun x hx p hp => ?_⟩
  · obtain ⟨y, hy, e⟩ := key x hx
    rw [map_len (e0_phis e)]; exact hs.lp y hy
  · obtain ⟨y, hy, e⟩ := key x hx
    rw [map_len (e0_insts e)]; exact hs.li y hy
  · obtain ⟨y, hy, e⟩ := key x hx
    obtain ⟨j, hj⟩ := List.mem_iff_getElem?.1 hp
    obtain ⟨q, hq, _, e2⟩ := e0_phi e hj
    rw [e2]; exact hs.ap y hy q (List.mem_of_getElem? hq)
  · obtain ⟨y, hy, e⟩ := key x hx
    obtain ⟨j, hj⟩ := List.mem_iff_getElem?.1 hp
    obtain ⟨q, hq, _, _, _, _, e2⟩ := e0_inst e hj
    rw [e2]; exact hs.ai y hy q (List.mem_of_getElem? hq)
end
section
variable {w : World} {A : Option Addr} {c : Nat} {ad : Addr} {k : Nat}
theorem own_blk {fs : List FBlk} {x : FBlk} (h : (blR A c fs).holds w) (hA : A = some ad) (hx : fs[k]? = some x) : ∀ j v, (xV x)[j]? = some v → w.cell? ((ad.add (k * 6)).add j) = some v :=
  rds_get (cs := xV x) (rd_rds (f := xV) xV_len (by omega) (row_rd h)) hA (by rw [List.getElem?_map, hx]; rfl)
theorem own_phi {l : List FPhi} {p : FPhi} (h : (phR A c l).holds w) (hA : A = some ad) (hp : l[k]? = some p) : ∀ j v, (pV p)[j]? = some v → w.cell? ((ad.add (k * 2)).add j) = some v :=
  rds_get (cs := p.cells) (rd_rds (f := FPhi.cells) phi_cells_len (by omega) (row_rd h)) hA (by rw [List.getElem?_map, hp]; rfl)
theorem own_ins {l : List FIns} {p : FIns} (h : (inR' A c l).holds w) (hA : A = some ad) (hp : l[k]? = some p) : ∀ j v, (iV p)[j]? = some v → w.cell? ((ad.add (k * 5)).add j) = some v :=
  rds_get (cs := p.cells) (rd_rds (f := FIns.cells) ins_cells_len (by omega) (row_rd h)) hA (by rw [List.getElem?_map, hp]; rfl)
theorem gp_cells_len (p : GPhi) : p.cells.length = 3 := rfl
theorem own_gp {l : List GPhi} {p : GPhi} (h : (gpR A c l).holds w) (hA : A = some ad) (hp : l[k]? = some p) : ∀ j v, (gpV p)[j]? = some v → w.cell? ((ad.add (k * 3)).add j) = some v :=
  rds_get (cs := p.cells) (rd_rds (f := GPhi.cells) gp_cells_len (by omega) (row_rd h)) hA (by rw [List.getElem?_map, hp]; rfl)
theorem own_bs {fs : List FBlk} (h : (blR A c fs).holds w) : (Res.blocks A (bsOf fs)).holds w := by
  have := rd_rds (f := xV) xV_len (by omega) (row_rd h)
  unfold Res.blocks
  rw [show (bsOf fs).map SB.cells = fs.map xV by unfold bsOf; rw [List.map_map]; rfl]
  exact this
theorem row_at {e size n : Nat} {xs : List Value} (h : (Res.row e size A n c xs).holds w) (hn : 0 < xs.length) : ∃ ad, A = some ad := rd_some (row_rd h) hn
end
end Go.Mor
namespace Go.Mor
open Go.RowKit
section
variable {α : Type} {p : α → Bool} {l : List α} {j : Nat} {x : α}
def fidxG (p : α → Bool) (l : List α) : Int := match l.findIdx? p with
  | some i => (i : Int)
  | none => -1
def keptG (p : α → Bool) (l : List α) (j : Nat) : List α := (l.take j).filter (fun x => !p x)
theorem keptG_yes (hx : l[j]? = some x) (hc : p x = false) : keptG p l (j + 1) = keptG p l j ++ [x] := by
  obtain ⟨hj, he⟩ := List.getElem?_eq_some_iff.1 hx
  unfold keptG
  rw [List.take_succ_eq_append_getElem hj, List.filter_append, he]
  simp [hc]
theorem keptG_no (hx : l[j]? = some x) (hc : p x = true) : keptG p l (j + 1) = keptG p l j := by
  obtain ⟨hj, he⟩ := List.getElem?_eq_some_iff.1 hx
  unfold keptG
  rw [List.take_succ_eq_append_getElem hj, List.filter_append, he]
  simp [hc]
theorem keptG_all (hj : l.length ≤ j) : keptG p l j = l.filter (fun x => !p x) := by
  unfold keptG
  rw [List.take_of_length_le hj]
theorem anyG_next (hn : (l.take j).any p = false) (hx : l[j]? = some x) (hc : p x = false) : (l.take (j + 1)).any p = false := by
  obtain ⟨hj, he⟩ := List.getElem?_eq_some_iff.1 hx
  rw [List.take_succ_eq_append_getElem hj, List.any_append, hn, he]
  simp [hc]
theorem fidxG_hit (hn : (l.take j).any p = false) (hx : l[j]? = some x) (hc : p x = true) : fidxG p l = (j : Int) := by
  obtain ⟨hj, he⟩ := List.getElem?_eq_some_iff.1 hx
  have : l.findIdx? p = some j := by
    rw [List.findIdx?_eq_some_iff_getElem]
    refine ⟨hj, by rw [he]; exact hc, fun i hi => ?_⟩
    rw [List.any_eq_false] at hn
    exact hn _ (List.mem_take_iff_getElem.2 ⟨i, by omega, rfl⟩)
  unfold fidxG
  rw [this]
theorem fidxG_miss (hn : (l.take j).any p = false) (hj : l.length ≤ j) : fidxG p l = -1 := by
  have : l.findIdx? p = none := by
    rw [List.findIdx?_eq_none_iff]
    intro x hx
    rw [List.take_of_length_le hj, List.any_eq_false] at hn
    have := hn x hx
    simpa using this
  unfold fidxG
  rw [this]
theorem fidxG_lt (p : α → Bool) (l : List α) : -1 ≤ fidxG p l ∧ fidxG p l < (l.length : Int) := by
  unfold fidxG
  cases h : l.findIdx? p with
  | none => simp only []; omega
  | some i =>
    rw [List.findIdx?_eq_some_iff_getElem] at h
    obtain ⟨h1, _⟩ := h
    simp only []; omega
theorem anyG_filter (h : fidxG p l = -1) : l.filter (fun x => !p x) = l := by
  unfold fidxG at h
  cases hh : l.findIdx? p with
  | some i => rw [hh] at h; simp only [] at h; omega
  | none =>
    rw [List.findIdx?_eq_none_iff] at hh
    rw [List.filter_eq_self]
    intro x hx
    simp [hh x hx]
theorem keptG_start (h : fidxG p l ≠ -1) : ∃ i : Nat, fidxG p l = (i : Int) ∧ i < l.length ∧ keptG p l (i + 1) = l.take i := by
  unfold fidxG at h ⊢
  cases hh : l.findIdx? p with
  | none => rw [hh] at h; simp at h
  | some i =>
    rw [List.findIdx?_eq_some_iff_getElem] at hh
    obtain ⟨h1, h2, h3⟩ := hh
    refine ⟨i, rfl, h1, ?_⟩
    unfold keptG
    rw [List.take_succ_eq_append_getElem h1, List.filter_append]
    have : [l[i]].filter (fun x => !p x) = [] := by simp [h2]
    rw [this, List.append_nil, List.filter_eq_self]
    intro x hx
    obtain ⟨j, hj, rfl⟩ := List.mem_iff_getElem.1 hx
    simp at hj
    have := h3 j (by omega)
    simpa using this
def HalfG (l m k : List α) (j : Nat) : Prop := m.length = l.length ∧ m.take k.length = k ∧ m.drop j = l.drop j ∧ k.length < j
variable {m k : List α}
theorem halfG_get (h : HalfG l m k j) : m[j]? = l[j]? := by
  obtain ⟨h1, _, h3, _⟩ := h
  have e : ∀ x : List α, x[j]? = (x.drop j)[0]? := fun x => by simp
  rw [e m, e l, h3]
theorem halfG_no (h : HalfG l m k j) : HalfG l m k (j + 1) := by
  obtain ⟨h1, h2, h3, h4⟩ := h
  refine ⟨h1, h2, ?_, by omega⟩
  rw [← List.drop_drop, ← List.drop_drop, h3]
theorem halfG_yes (h : HalfG l m k j) (hj : j < l.length) (v : α) : HalfG l (m.set k.length v) (k ++ [v]) (j + 1) := by
  obtain ⟨h1, h2, h3, h4⟩ := h
  refine ⟨by simpa using h1, ?_, ?_, by simp; omega⟩
  · rw [List.length_append, List.length_singleton, List.take_succ_eq_append_getElem (by simp; omega)]
    rw [List.take_set_of_le (Nat.le_refl _), h2]
    simp
  · rw [List.drop_set, if_pos (by omega), ← List.drop_drop, ← List.drop_drop, h3]
theorem halfG_start {i : Nat} (hi : i < l.length) : HalfG l l (l.take i) (i + 1) := by
  refine ⟨rfl, by simp, rfl, by simp; omega⟩
theorem flat_take {f : α → List Value} {q : Nat} (hf : ∀ x, (f x).length = q) : ∀ (l : List α) (n : Nat), (l.flatMap f).take (n * q) = (l.take n).flatMap f
  | [], n => by simp
  | x :: l, 0 => by simp
  | x :: l, n + 1 => by
    rw [List.flatMap_cons, List.take_succ_cons, List.flatMap_cons, ← flat_take hf l n, Nat.succ_mul, Nat.add_comm, ← hf x, List.take_length_add_append]
theorem clearedG {f : α → List Value} {q : Nat} (hf : ∀ x, (f x).length = q) (h2 : m.take k.length = k) (z y : List Value) : ((m.flatMap f).take (k.length * q) ++ z ++ y).take (k.length * q) = k.flatMap f := by
  have hl : k.length ≤ m.length := by
    have := congrArg List.length h2
    simp at this
    omega
  rw [flat_take hf, h2, List.append_assoc]
  have : k.length * q = (k.flatMap f).length := (flat_len hf k).symm
  rw [this, List.take_left]
end
def delP (rl : List Bool) (x : GPhi) : Bool := !(rl.getD x.dst.toNat false)
def delI (rl : List Bool) (i : FIns) : Bool := decide (pureQ i.op) && !(rl.getD i.dst.toNat false)
end Go.Mor
namespace Go.Mor
open Go.RowKit
def readsS : List Int → List Bool × List Int → List Bool × List Int
  | [], s => s
  | v :: l, s => if 0 ≤ v ∧ s.1.getD v.toNat false = false then readsS l (s.1.set v.toNat true, s.2 ++ [v]) else readsS l s
theorem readsS_at {l : List Int} {j : Nat} {v : Int} {s : List Bool × List Int} (h : l[j]? = some v) : readsS (l.take (j + 1)) s = if 0 ≤ v ∧ (readsS (l.take j) s).1.getD v.toNat false = false then ((readsS (l.take j) s).1.set v.toNat true, (readsS (l.take j) s).2 ++ [v]) else readsS (l.take j) s := by
  induction l generalizing j s with
  | nil => simp at h
  | cons x l ih =>
    cases j with
    | zero =>
      simp at h
      subst h
      simp only [List.take_succ_cons, List.take_zero, readsS]
    | succ j =>
      simp at h
      rw [List.take_succ_cons, List.take_succ_cons, readsS, readsS]
      split
      · exact ih h
      · exact ih h
def cntB (rl : List Bool) : Nat := rl.countP (fun b => b)
theorem cntB_le (rl : List Bool) : cntB rl ≤ rl.length := List.countP_le_length
theorem cntB_set {rl : List Bool} {i : Nat} (hi : i < rl.length) (h : rl.getD i false = false) : cntB (rl.set i true) = cntB rl + 1 := by
  have hg : rl[i] = false := by simpa [List.getD, List.getElem?_eq_getElem hi] using h
  unfold cntB
  induction rl generalizing i with
  | nil => simp at hi
  | cons x rl ih =>
    cases i with
    | zero => simp at hg; subst hg; simp
    | succ i =>
      simp only [List.set_cons_succ, List.countP_cons]
      have := ih (i := i) (by simpa using hi) (by simpa [List.getD] using h) (by simpa using hg)
      omega
theorem readsS_len : ∀ (l : List Int) (s : List Bool × List Int), (readsS l s).1.length = s.1.length
  | [], s => rfl
  | v :: l, s => by
    rw [readsS]
    split
    · rw [readsS_len]; simp
    · exact readsS_len l s
theorem readsS_cnt : ∀ (l : List Int) (s : List Bool × List Int), (∀ v, v ∈ l → v < (s.1.length : Int)) → cntB (readsS l s).1 + s.2.length = cntB s.1 + (readsS l s).2.length
  | [], s, _ => rfl
  | v :: l, s, h => by
    rw [readsS]
    split
    · rename_i hc
      have hv := h v (List.mem_cons_self ..)
      have := readsS_cnt l (s.1.set v.toNat true, s.2 ++ [v]) (fun u hu => by rw [List.length_set]; exact h u (List.mem_cons_of_mem _ hu))
      simp only [List.length_append, List.length_singleton] at this
      rw [cntB_set (by omega) hc.2] at this
      omega
    · exact readsS_cnt l s (fun u hu => h u (List.mem_cons_of_mem _ hu))
theorem readsS_get : ∀ (l : List Int) (s : List Bool × List Int) (i : Nat), (∀ v, v ∈ l → v < (s.1.length : Int)) → i < s.1.length →
    ((readsS l s).1.getD i false = true ↔ s.1.getD i false = true ∨ (i : Int) ∈ l)
  | [], s, i, _, _ => by simp [readsS]
  | v :: l, s, i, h, hi => by
    have hv := h v (List.mem_cons_self ..)
    rw [readsS]
    split
    · rename_i hc
      rw [readsS_get l _ i (fun u hu => by rw [List.length_set]; exact h u (List.mem_cons_of_mem _ hu)) (by rw [List.length_set]; exact hi)]
      by_cases e : v.toNat = i
      · subst e
        have : ((s.1.set v.toNat true).getD v.toNat false = true) := by simp [List.getD, hi]
        simp only [this, true_or, true_iff]
        right
        have : ((v.toNat : Nat) : Int) = v := by omega
        rw [this]; exact List.mem_cons_self ..
      · have e1 : (s.1.set v.toNat true).getD i false = s.1.getD i false := by simp [List.getD, List.getElem?_set_ne e]
        rw [e1, List.mem_cons]
        constructor
        · rintro (h1 | h1); exact .inl h1; exact .inr (.inr h1)
        · rintro (h1 | h1 | h1)
          · exact .inl h1
          · exfalso; omega
          · exact .inr h1
    · rename_i hc
      rw [readsS_get l s i (fun u hu => h u (List.mem_cons_of_mem _ hu)) hi, List.mem_cons]
      constructor
      · rintro (h1 | h1); exact .inl h1; exact .inr (.inr h1)
      · rintro (h1 | h1 | h1)
        · exact .inl h1
        · left
          subst h1
          have : ¬ (s.1.getD i false = false) := fun e => hc ⟨by omega, by simpa using e⟩
          simpa using this
        · exact .inr h1
theorem readsS_list : ∀ (l : List Int) (s : List Bool × List Int), (∀ v, v ∈ l → v < (s.1.length : Int)) →
    (∀ v, v ∈ (readsS l s).2 → v ∈ s.2 ∨ (v ∈ l ∧ 0 ≤ v)) ∧ (∀ v, v ∈ s.2 → v ∈ (readsS l s).2) ∧ (∀ i : Nat, i < s.1.length → (readsS l s).1.getD i false = true → s.1.getD i false = true ∨ (i : Int) ∈ (readsS l s).2)
  | [], s, _ => ⟨fun v h => .inl h, fun v h => h, fun i _ h => .inl h⟩
  | v :: l, s, h => by
    have hv := h v (List.mem_cons_self ..)
    rw [readsS]
    split
    · rename_i hc
      obtain ⟨h1, h2, h3⟩ := readsS_list l (s.1.set v.toNat true, s.2 ++ [v]) (fun u hu => by rw [List.length_set]; exact h u (List.mem_cons_of_mem _ hu))
      refine ⟨fun u hu => ?_, fun u hu => h2 u (List.mem_append_left _ hu), fun i hi hm => ?_⟩
      · rcases h1 u hu with h4 | h4
        · rcases List.mem_append.1 h4 with h4 | h4
          · exact .inl h4
          · simp at h4; subst h4; exact .inr ⟨List.mem_cons_self .., hc.1⟩
        · exact .inr ⟨List.mem_cons_of_mem _ h4.1, h4.2⟩
      · rcases h3 i (by rw [List.length_set]; exact hi) hm with h4 | h4
        · by_cases e : v.toNat = i
          · right
            have : (i : Int) = v := by omega
            rw [this]
            exact h2 v (List.mem_append_right _ (List.mem_singleton_self v))
          · left; simpa [List.getD, List.getElem?_set_ne e] using h4
        · exact .inr h4
    · obtain ⟨h1, h2, h3⟩ := readsS_list l s (fun u hu => h u (List.mem_cons_of_mem _ hu))
      refine ⟨fun u hu => ?_, h2, h3⟩
      rcases h1 u hu with h4 | h4
      · exact .inl h4
      · exact .inr ⟨List.mem_cons_of_mem _ h4.1, h4.2⟩
end Go.Mor

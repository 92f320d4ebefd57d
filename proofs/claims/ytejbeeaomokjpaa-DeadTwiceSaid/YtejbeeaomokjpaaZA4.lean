/-
  Texts of the proof, part 4.
-/
import Derived.Test.YtejbeeaomokjpaaZA3
import Derived.Orders
set_option maxRecDepth 10000
namespace Go.Mor
open Go.RowKit
abbrev Kp (w w' : World) : Prop := Mem noS w w' []
theorem Kp.refl (w : World) : Kp w w := Mem.init w
theorem Kp.trans {a b c : World} (h : Kp a b) (h' : Kp b c) : Kp a c := by simpa using h.call h'
theorem Mem.kp {w w' : World} {L : List Res} (h : Mem noS w w' L) : Kp w w' := ⟨h.os, h.tape, h.output, h.size, h.kept, by simp, List.Pairwise.nil⟩
theorem Mem.then_ {S : Nat → Prop} {w0 w w' : World} {L : List Res} (h : Mem S w0 w L) (h' : Kp w w') : Mem S w0 w' L := by simpa using h.call h'
theorem Mem.cast {S : Nat → Prop} {w0 w : World} {L L' : List Res} (h : Mem S w0 w L) (e : L = L') : Mem S w0 w L' := e ▸ h
inductive Spec where
  | det (v : Value)
  | any (Φ : Value → World → Prop) (h : ∀ v w w', Kp w w' → Φ v w → Φ v w')
def Spec.ok : Spec → Value → World → Prop
  | .det u, v, _ => v = u
  | .any Φ _, v, w => Φ v w
def Spec.val : Spec → Value → Value
  | .det u, _ => u
  | .any _ _, v => v
theorem Spec.val_ok {s : Spec} {v : Value} {w : World} (h : s.ok v w) : s.val v = v := by
  cases s with
  | det u => exact h.symm
  | any Φ _ => rfl
theorem Spec.stable (s : Spec) (v : Value) (w w' : World) (hK : Kp w w') (h : s.ok v w) : s.ok v w' := by
  cases s with
  | det u => exact h
  | any Φ hs => exact hs v w w' hK h
def specAt : List Spec → Nat → Spec
  | [], _ => .det undef
  | s :: _, 0 => s
  | _ :: r, n + 1 => specAt r n
def dstAt (c : Code) (j : Nat) : Option Nat := ((opsOf c)[j]?).bind (·.dst)
def predsOf (c : Code) (i : Nat) : List Nat := match (opsOf c)[i]? with
  | some o => (o.after.toList.filter (fun e => Region.binds .any e)).map (·.on)
  | none => []
def memN : List Nat → Nat → Bool
  | [], _ => false
  | x :: r, t => match Nat.beq x t with
    | true => true
    | false => memN r t
theorem memN_iff {l : List Nat} {t : Nat} : memN l t = true ↔ t ∈ l := by
  induction l with
  | nil => simp [memN]
  | cons x r ih =>
    unfold memN
    cases hq : Nat.beq x t with
    | true => simp [Nat.eq_of_beq_eq_true hq]
    | false =>
      have hne : ¬ t = x := fun e => by subst e; simp at hq
      simp [ih, hne]
def freeAt (c : Code) (i t : Nat) : Nat → Bool
  | 0 => true
  | j + 1 => freeAt c i t j && (match dstAt c j with
    | some d => match Nat.beq d t with
      | true => memN (predsOf c j) i
      | false => true
    | none => true)
def baseE (c : Code) (i : Nat) : Env → Env
  | [] => []
  | (t, v) :: r => match freeAt c i t (opsOf c).size with
    | true => (t, v) :: baseE c i r
    | false => baseE c i r
def valsE (c : Code) (sp : Nat → Spec) (vs : Nat → Value) : List Nat → Env
  | [] => []
  | j :: r => match dstAt c j with
    | some d => (d, (sp j).val (vs j)) :: valsE c sp vs r
    | none => valsE c sp vs r
def predE (c : Code) (i : Nat) (sp : Nat → Spec) (vs : Nat → Value) (env0 : Env) : Env := valsE c sp vs (predsOf c i) ++ baseE c i env0
def one (c : Code) (i : Nat) : Code := match (opsOf c)[i]? with
  | some o => .region 0 #[{ o with guard := none }] false
  | none => .skip
def OpOK (P : Program) (c : Code) (Q : Exit → Act → World → Prop) (N : FN) (env0 : Env) (wr : World) (sp : Nat → Spec) (i : Nat) : Prop :=
  ∀ (a : Act) (w : World) (vs : Nat → Value) (rest : Env), Kp wr w → (∀ j, j ∈ predsOf c i → (sp j).ok (vs j) w) → Fr a N (predE c i sp vs env0 ++ rest) →
    ∃ b, (∀ g, (coreAt c i).map (·.2.2.2) = some g → guardE c g (predE c i sp vs env0 ++ rest) = some b) ∧
      (b = true → From P (one c i) (fun a' w' => ∃ v, a' = a.put (dstAt c i) v ∧ Kp w w' ∧ (sp i).ok v w') Q 0 a w) ∧ (b = false → (sp i).ok undef w)
def dstsOk (c : Code) : Bool := (List.range (opsOf c).size).all fun i => (List.range i).all fun j => match dstAt c i, dstAt c j with
  | some d, some e => !(Nat.beq d e)
  | _, _ => true
theorem dsts_ne {c : Code} (h : dstsOk c = true) {i j d : Nat} (hi : dstAt c i = some d) (hj : dstAt c j = some d) : i = j := by
  have lt : ∀ {k e}, dstAt c k = some e → k < (opsOf c).size := by
    intro k e hk
    simp only [dstAt] at hk
    cases ho : (opsOf c)[k]? with
    | none => simp [ho] at hk
    | some o => exact (Array.getElem?_eq_some_iff.1 ho).1
  have key : ∀ {i j d}, dstAt c i = some d → dstAt c j = some d → j < i → False := by
    intro i j d hi hj hlt
    simp only [dstsOk, List.all_eq_true, List.mem_range] at h
    have := h i (lt hi) j hlt
    simp [hi, hj] at this
  rcases Nat.lt_trichotomy i j with h1 | h1 | h1
  · exact (key hj hi h1).elim
  · exact h1
  · exact (key hi hj h1).elim
theorem look_append {E F : Env} {t : Nat} {v : Value} (h : look (E ++ F) t = some v) : look E t = some v ∨ look F t = some v := by
  induction E with
  | nil => exact .inr h
  | cons x r ih =>
    obtain ⟨k, u⟩ := x
    simp only [List.cons_append, look] at h ⊢
    cases hq : Nat.beq k t with
    | true => rw [hq] at h; exact .inl h
    | false => rw [hq] at h; exact ih h
theorem look_vals {c : Code} {sp : Nat → Spec} {vs : Nat → Value} {l : List Nat} {t : Nat} {v : Value} (h : look (valsE c sp vs l) t = some v) : ∃ j, j ∈ l ∧ dstAt c j = some t ∧ v = (sp j).val (vs j) := by
  induction l with
  | nil => simp [valsE, look] at h
  | cons j r ih =>
    unfold valsE at h
    cases hd : dstAt c j with
    | none =>
      rw [hd] at h
      obtain ⟨j', h1, h2⟩ := ih h
      exact ⟨j', List.mem_cons_of_mem _ h1, h2⟩
    | some d =>
      rw [hd] at h
      simp only [look] at h
      cases hq : Nat.beq d t with
      | true =>
        rw [hq] at h
        injection h with h
        have := Nat.eq_of_beq_eq_true hq
        subst this
        exact ⟨j, List.mem_cons_self .., hd, h.symm⟩
      | false =>
        rw [hq] at h
        obtain ⟨j', h1, h2⟩ := ih h
        exact ⟨j', List.mem_cons_of_mem _ h1, h2⟩
theorem free_spec {c : Code} {i t : Nat} : ∀ {n : Nat}, freeAt c i t n = true → ∀ j, j < n → dstAt c j = some t → i ∈ predsOf c j
  | 0, _, j, hj, _ => absurd hj (by omega)
  | n + 1, h, j, hj, hd => by
    simp only [freeAt, Bool.and_eq_true] at h
    by_cases e : j = n
    · subst e
      have h2 := h.2
      rw [hd] at h2
      simp at h2
      exact memN_iff.1 h2
    · exact free_spec h.1 j (by omega) hd
theorem base_spec {c : Code} {i : Nat} : ∀ {env : Env} {t : Nat} {v : Value}, look (baseE c i env) t = some v → (t, v) ∈ env ∧ ∀ j, dstAt c j = some t → i ∈ predsOf c j
  | [], t, v, h => by simp [baseE, look] at h
  | (k, u) :: r, t, v, h => by
    unfold baseE at h
    cases hf : freeAt c i k (opsOf c).size with
    | false =>
      rw [hf] at h
      obtain ⟨h1, h2⟩ := base_spec h
      exact ⟨List.mem_cons_of_mem _ h1, h2⟩
    | true =>
      rw [hf] at h
      simp only [look] at h
      cases hq : Nat.beq k t with
      | false =>
        rw [hq] at h
        obtain ⟨h1, h2⟩ := base_spec h
        exact ⟨List.mem_cons_of_mem _ h1, h2⟩
      | true =>
        rw [hq] at h
        injection h with h
        have := Nat.eq_of_beq_eq_true hq
        subst this
        subst h
        refine ⟨List.mem_cons_self .., fun j hj => free_spec hf j ?_ hj⟩
        simp only [dstAt] at hj
        cases ho : (opsOf c)[j]? with
        | none => simp [ho] at hj
        | some o => exact (Array.getElem?_eq_some_iff.1 ho).1
def keysOk : Env → Bool
  | [] => true
  | (k, _) :: r => !(memN (r.map (·.1)) k) && keysOk r
theorem keys_look : ∀ {env : Env}, keysOk env = true → ∀ {t : Nat} {v : Value}, (t, v) ∈ env → look env t = some v
  | [], _, t, v, h => by simp at h
  | (k, u) :: r, hk, t, v, h => by
    simp only [keysOk, Bool.and_eq_true, Bool.not_eq_true'] at hk
    simp only [look]
    rcases List.mem_cons.1 h with h | h
    · injection h with h1 h2
      subst h1
      subst h2
      simp
    · cases hq : Nat.beq k t with
      | false => exact keys_look hk.2 h
      | true =>
        have := Nat.eq_of_beq_eq_true hq
        subst this
        have hm : memN (r.map (·.1)) k = true := memN_iff.2 (List.mem_map.2 ⟨_, h, rfl⟩)
        rw [hm] at hk
        cases hk.1
def restE (c : Code) : Env → Env
  | [] => []
  | (t, v) :: r => match memN ((List.range (opsOf c).size).filterMap (dstAt c)) t with
    | true => restE c r
    | false => (t, v) :: restE c r
theorem look_rest {c : Code} : ∀ {env : Env} {t : Nat} {v : Value}, look (restE c env) t = some v → (t, v) ∈ env ∧ ∀ j, dstAt c j ≠ some t
  | [], t, v, h => by simp [restE, look] at h
  | (k, u) :: r, t, v, h => by
    unfold restE at h
    cases hm : memN ((List.range (opsOf c).size).filterMap (dstAt c)) k with
    | true =>
      rw [hm] at h
      obtain ⟨h1, h2⟩ := look_rest h
      exact ⟨List.mem_cons_of_mem _ h1, h2⟩
    | false =>
      rw [hm] at h
      simp only [look] at h
      cases hq : Nat.beq k t with
      | false =>
        rw [hq] at h
        obtain ⟨h1, h2⟩ := look_rest h
        exact ⟨List.mem_cons_of_mem _ h1, h2⟩
      | true =>
        rw [hq] at h
        injection h with h
        have := Nat.eq_of_beq_eq_true hq
        subst this
        subst h
        refine ⟨List.mem_cons_self .., fun j hj => ?_⟩
        have hlt : j < (opsOf c).size := by
          simp only [dstAt] at hj
          cases ho : (opsOf c)[j]? with
          | none => simp [ho] at hj
          | some o => exact (Array.getElem?_eq_some_iff.1 ho).1
        have : memN ((List.range (opsOf c).size).filterMap (dstAt c)) k = true := memN_iff.2 (List.mem_filterMap.2 ⟨j, List.mem_range.2 hlt, hj⟩)
        rw [this] at hm
        cases hm
def predsLt (c : Code) : Bool := (List.range (opsOf c).size).all fun i => (predsOf c i).all fun j => Nat.blt j i
section
variable {P : Program} {c : Code} {K : Act → World → Prop} {Q : Exit → Act → World → Prop} {N : FN} {env0 : Env} {wr : World} {sp : Nat → Spec}
def Known (c : Code) (N : FN) (env0 : Env) (wr : World) (sp : Nat → Spec) (listed : Array Bool) (a : Act) (w : World) : Prop :=
  Kp wr w ∧ a.defers = N.D ∧ a.tmps.size = N.n ∧ (∀ j, listed.getD j false = true → ∀ i, i ∈ predsOf c j → listed.getD i false = true) ∧
  (∃ vs : Nat → Value, ∀ j, listed.getD j false = true → (sp j).ok (vs j) w ∧ ∀ d, dstAt c j = some d → a.tmps[d]? = some (vs j)) ∧
  (∀ t v, (t, v) ∈ env0 → (∀ j, listed.getD j false = true → dstAt c j ≠ some t) → a.tmps[t]? = some v)
theorem one_core {i : Nat} {o : Oper} (ho : (opsOf c)[i]? = some o) : opsOf (one c i) = #[{ o with guard := none }] := by
  unfold one
  rw [ho]
  rfl
theorem ready_spec {ops : Array Oper} {listed : Array Bool} {i : Nat} (h : i ∈ Region.ready .any ops listed) : i < ops.size ∧ listed.getD i true = false ∧ ∃ o, ops[i]? = some o ∧ ∀ e, e ∈ o.after.toList → Region.binds .any e = true → listed.getD e.on false = true := by
  simp only [Region.ready, List.mem_filter, List.mem_range, Bool.and_eq_true, Bool.not_eq_true'] at h
  obtain ⟨h1, h2, h3⟩ := h
  refine ⟨h1, h2, ?_⟩
  cases ho : ops[i]? with
  | none => simp [ho] at h3
  | some o =>
    refine ⟨o, rfl, fun e he hb => ?_⟩
    simp only [ho, Option.map_some, Option.getD_some] at h3
    have h4 := (Array.all_eq_true_iff_forall_mem.1 h3) e (Array.mem_toList_iff.1 he)
    simpa [hb] using h4
theorem draw_step (hd : dstsOk c = true) (hdn : ∀ i d, dstAt c i = some d → d < N.n) {i : Nat} (hi : OpOK P c Q N env0 wr sp i)
    {listed : Array Bool} {a : Act} {w : World} (hn : listed.size = (opsOf c).size) (hr : i ∈ Region.ready .any (opsOf c) listed) (hk : Known c N env0 wr sp listed a w)
    {G : Act → World → Prop} (hG : ∀ a' w', Known c N env0 wr sp (listed.setIfInBounds i true) a' w' → G a' w') : wpOp P (opsOf c) (Exit.then K Q) i G a w := by
  obtain ⟨hlt, hnl, o, ho, hpre⟩ := ready_spec hr
  obtain ⟨hkp, hdef, hsz, hcl, ⟨vs, hvs⟩, hbase⟩ := hk
  have hnl' : listed.getD i false = false := by
    have : i < listed.size := by omega
    simp [Array.getD, this] at hnl ⊢
    exact hnl
  have hpl : ∀ j, j ∈ predsOf c i → listed.getD j false = true := by
    intro j hj
    simp only [predsOf, ho, List.mem_map, List.mem_filter] at hj
    obtain ⟨e, ⟨he, hb⟩, rfl⟩ := hj
    exact hpre e he hb
  have hdi : dstAt c i = o.dst := by simp [dstAt, ho]
  have hF : Fr a N (predE c i sp vs env0 ++ []) := by
    refine ⟨hdef, hsz, fun t v hv => ?_⟩
    rw [List.append_nil] at hv
    rcases look_append hv with h1 | h1
    · obtain ⟨j, hj, hdj, rfl⟩ := look_vals h1
      obtain ⟨h2, h3⟩ := hvs j (hpl j hj)
      rw [Spec.val_ok h2]
      exact h3 t hdj
    · obtain ⟨h2, h3⟩ := base_spec h1
      refine hbase t v h2 (fun j hj hdj => ?_)
      have := hcl j hj i (h3 j hdj)
      rw [hnl'] at this
      cases this
  obtain ⟨b, hb, hrun, hskip⟩ := hi a w vs [] hkp (fun j hj => (hvs j (hpl j hj)).1) hF
  have hcore : coreAt c i = some (o.dst, o.op, o.type, o.guard) := by simp [coreAt, ho]
  have hw := guard_ok (c := c) hF rfl (hb _ (by rw [hcore]; rfl))
  -- what is known behind it
  have next : ∀ v w', Kp w w' → (sp i).ok v w' → Known c N env0 wr sp (listed.setIfInBounds i true) (a.put o.dst v) w' := by
    intro v w' hkp' hv
    have hget : ∀ j, (listed.setIfInBounds i true).getD j false = true → j = i ∨ listed.getD j false = true := by
      intro j hj
      by_cases e : i = j
      · exact .inl e.symm
      · refine .inr ?_
        simpa [Array.getD_eq_getD_getElem?, Array.getElem?_setIfInBounds_ne e] using hj
    have hget' : ∀ j, listed.getD j false = true → (listed.setIfInBounds i true).getD j false = true := by
      intro j hj
      by_cases e : i = j
      · subst e
        have : i < listed.size := by omega
        simp [Array.getD_eq_getD_getElem?, this]
      · simpa [Array.getD_eq_getD_getElem?, Array.getElem?_setIfInBounds_ne e] using hj
    refine ⟨hkp.trans hkp', by cases hdd : o.dst <;> simp [Act.put, hdef], by cases hdd : o.dst <;> simp [Act.put, hsz], ?_, ⟨fun j => if j = i then v else vs j, ?_⟩, ?_⟩
    · intro j hj k hk
      rcases hget j hj with rfl | h1
      · exact hget' k (hpl k hk)
      · exact hget' k (hcl j h1 k hk)
    · intro j hj
      rcases hget j hj with rfl | h1
      · refine ⟨by simpa using hv, fun d hdj => ?_⟩
        rw [hdi] at hdj
        simp only [hdj, Act.put, if_true]
        have := hdn j d (by rw [hdi]; exact hdj)
        rw [Array.getElem?_setIfInBounds_self_of_lt (by omega)]
      · have hne : j ≠ i := fun e => by subst e; rw [hnl'] at h1; cases h1
        obtain ⟨h2, h3⟩ := hvs j h1
        refine ⟨by simpa [hne] using (sp j).stable _ _ _ hkp' h2, fun d hdj => ?_⟩
        simp only [hne, if_false]
        cases hdd : o.dst with
        | none => exact h3 d hdj
        | some d' =>
          simp only [Act.put]
          have : d' ≠ d := fun e => by
            subst e
            exact hne (dsts_ne hd hdj (by rw [hdi]; exact hdd))
          rw [Array.getElem?_setIfInBounds_ne this]
          exact h3 d hdj
    · intro t u htu hj
      have h1 := hbase t u htu (fun j hj' => hj j (hget' j hj'))
      cases hdd : o.dst with
      | none => exact h1
      | some d' =>
        simp only [Act.put]
        have : d' ≠ t := fun e => by
          subst e
          have hi' : (listed.setIfInBounds i true).getD i false = true := by
            have : i < listed.size := by omega
            simp [Array.getD_eq_getD_getElem?, this]
          exact hj i hi' (by rw [hdi]; exact hdd)
        rw [Array.getElem?_setIfInBounds_ne this]
        exact h1
  unfold wpOp
  rw [ho]
  simp only []
  rw [hw]
  cases b with
  | false =>
    simp only [Bool.false_eq_true, if_false]
    exact hG _ _ (next undef w (Kp.refl w) (hskip rfl))
  | true =>
    simp only [if_true]
    have h1 := hrun rfl
    unfold From at h1
    rw [one_core ho] at h1
    simp only [List.drop_zero] at h1
    unfold wpList at h1
    rw [if_pos (by simp [Region.wanted])] at h1
    rcases h1 with h1 | ⟨h1, h2⟩
    · refine .inl ?_
      have e1 : ∀ (K' : Act → World → Prop) (Q' : Exit → Act → World → Prop), ({ o with guard := none } : Oper).wp P a w K' Q' = o.wp P a w K' Q' := fun _ _ => rfl
      rw [e1] at h1
      -- the two posts part at the normal end alone
      have : o.wp P a w (fun a' w' => ∃ v, a' = a.put (dstAt c i) v ∧ Kp w w' ∧ (sp i).ok v w') (Exit.then (fun a' w' => ∃ v, a' = a.put (dstAt c i) v ∧ Kp w w' ∧ (sp i).ok v w') Q) := h1
      have h3 : o.wp P a w (fun a' w' => ∃ v, a' = a.put (dstAt c i) v ∧ Kp w w' ∧ (sp i).ok v w') (Exit.then K Q) := by
        unfold Oper.wp at this ⊢
        generalize (execOp a.eval o).run P w = r at *
        cases r with
        | ok n w' =>
          cases n <;> simp only [Oper.upon] at this ⊢ <;> first
            | exact this
            | exact Calls.mono this (fun e w'' he => by cases e <;> exact he)
        | halt x w' => cases x <;> simp only [Oper.upon] at this ⊢ <;> exact this
      refine Oper.wp_mono ?_ h3
      rintro a' w' ⟨v, rfl, hkv, hv⟩
      rw [hdi]
      exact hG _ _ (next v w' hkv hv)
    · refine .inr ⟨?_, ?_⟩
      · exact h1
      · obtain ⟨a0, w0, h0⟩ := h2
        exact ⟨a0, w0, h0⟩
theorem draw_all (hd : dstsOk c = true) (hdn : ∀ i d, dstAt c i = some d → d < N.n) (hpl : predsLt c = true) (hops : ∀ i, i < (opsOf c).size → OpOK P c Q N env0 wr sp i)
    (hend : ∀ a w, (∀ listed : Array Bool, (∀ j, j < (opsOf c).size → listed.getD j false = true) → Known c N env0 wr sp listed a w → K a w)) :
    ∀ (fuel : Nat) (listed : Array Bool) (a : Act) (w : World), listed.size = (opsOf c).size → ((List.range (opsOf c).size).filter (fun j => !listed.getD j false)).length ≤ fuel → Known c N env0 wr sp listed a w →
      wpAny P .any (opsOf c) (Exit.then K Q) fuel listed a w := by
  have none_ready : ∀ listed : Array Bool, listed.size = (opsOf c).size → Region.ready .any (opsOf c) listed = [] → ∀ j, j < (opsOf c).size → listed.getD j false = true := by
    intro listed hsz hr j
    induction j using Nat.strongRecOn with
    | _ j ih =>
      intro hj
      cases hq : listed.getD j false with
      | true => rfl
      | false =>
        exfalso
        have : j ∈ Region.ready .any (opsOf c) listed := by
          simp only [Region.ready, List.mem_filter, List.mem_range, Bool.and_eq_true, Bool.not_eq_true']
          have hjl : j < listed.size := by omega
          refine ⟨hj, ?_, ?_⟩
          · simp [Array.getD, hjl] at hq ⊢
            exact hq
          · have ho : (opsOf c)[j]? = some (opsOf c)[j] := by simp [hj]
            simp only [ho, Option.map_some, Option.getD_some]
            rw [Array.all_eq_true_iff_forall_mem]
            intro e he
            cases hb : Region.binds .any e with
            | false => rfl
            | true =>
              have hmem : e.on ∈ predsOf c j := by
                simp only [predsOf, ho, List.mem_map, List.mem_filter]
                exact ⟨e, ⟨Array.mem_toList_iff.2 he, hb⟩, rfl⟩
              have hlt : e.on < j := by
                simp only [predsLt, List.all_eq_true, List.mem_range] at hpl
                have := hpl j hj e.on hmem
                simpa [Nat.blt_eq] using this
              simp [ih e.on hlt (by omega)]
        rw [hr] at this
        simp at this
  intro fuel
  induction fuel with
  | zero =>
    intro listed a w hsz hf hk
    have hall : ∀ j, j < (opsOf c).size → listed.getD j false = true := by
      intro j hj
      cases hq : listed.getD j false with
      | true => rfl
      | false =>
        have : j ∈ (List.range (opsOf c).size).filter (fun j => !listed.getD j false) := List.mem_filter.2 ⟨List.mem_range.2 hj, by rw [hq]; rfl⟩
        have := List.length_pos_of_mem this
        omega
    refine ⟨?_, hend a w listed hall hk⟩
    cases hr : Region.ready .any (opsOf c) listed with
    | nil => rfl
    | cons i r =>
      exfalso
      have hi : i ∈ Region.ready .any (opsOf c) listed := by rw [hr]; simp
      obtain ⟨h1, h2, _⟩ := ready_spec hi
      have := hall i h1
      have hil : i < listed.size := by omega
      simp [Array.getD, hil] at h2 this
      rw [h2] at this
      cases this
  | succ fuel ih =>
    intro listed a w hsz hf hk
    refine ⟨fun hr => hend a w listed (none_ready listed hsz hr) hk, fun i hi => ?_⟩
    obtain ⟨h1, h2, _⟩ := ready_spec hi
    refine draw_step hd hdn (hops i h1) hsz hi hk (fun a' w' hk' => ?_)
    refine ih _ a' w' (by simpa using hsz) ?_ hk'
    -- one fewer is left
    have hil : i < listed.size := by omega
    have hni : listed.getD i false = false := by
      simp [Array.getD, hil] at h2 ⊢
      exact h2
    have hlt : ((List.range (opsOf c).size).filter (fun j => !(listed.setIfInBounds i true).getD j false)).length < ((List.range (opsOf c).size).filter (fun j => !listed.getD j false)).length := by
      have hsub : ((List.range (opsOf c).size).filter (fun j => !(listed.setIfInBounds i true).getD j false)) = ((List.range (opsOf c).size).filter (fun j => !listed.getD j false)).filter (fun j => !(Nat.beq j i)) := by
        rw [List.filter_filter]
        apply List.filter_congr
        intro j _
        by_cases e : i = j
        · subst e
          simp [Array.getD_eq_getD_getElem?, hil]
        · have hb : Nat.beq j i = false := by
            cases hq : Nat.beq j i with
            | false => rfl
            | true => exact absurd (Nat.eq_of_beq_eq_true hq).symm e
          simp [Array.getD_eq_getD_getElem?, Array.getElem?_setIfInBounds_ne e, hb]
      rw [hsub]
      have hmem : i ∈ (List.range (opsOf c).size).filter (fun j => !listed.getD j false) := List.mem_filter.2 ⟨List.mem_range.2 h1, by rw [hni]; rfl⟩
      refine List.length_filter_lt_length_iff_exists.2 ⟨i, hmem, by simp⟩
    omega
theorem W_draw (hk : kind c = .region true) (hm : P.follows .mixedOrders = true) {a : Act} (sp : Nat → Spec) (hd : dstsOk c = true) (hpl : predsLt c = true) (hF : Fr a N env0) (hkeys : keysOk env0 = true)
    (hdn : (List.range (opsOf c).size).all (fun i => okd (dstAt c i) N) = true)
    (hops : ∀ i, i < (opsOf c).size → OpOK P c Q N env0 wr sp i)
    (h : ∀ a' w' (vs : Nat → Value), Kp wr w' → (∀ j, j < (opsOf c).size → (sp j).ok (vs j) w') → Fr a' N (valsE c sp vs (List.range (opsOf c).size) ++ restE c env0) → K a' w') : W P c K Q a wr := by
  have hdn' : ∀ i d, dstAt c i = some d → d < N.n := by
    intro i d hi
    have hlt : i < (opsOf c).size := by
      simp only [dstAt] at hi
      cases ho : (opsOf c)[i]? with
      | none => simp [ho] at hi
      | some o => exact (Array.getElem?_eq_some_iff.1 ho).1
    simp only [List.all_eq_true, List.mem_range] at hdn
    have := hdn i hlt
    rw [hi] at this
    simpa [okd, Nat.blt_eq] using this
  cases c <;> simp [kind] at hk
  rename_i id ops dr
  subst hk
  refine wp_region_any hm ?_
  have h0 : Known (.region id ops true) N env0 wr sp (Array.replicate ops.size false) a { wr with drawn := wr.drawn + 1 } := by
    refine ⟨Mem.drew wr, hF.defers, hF.size, ?_, ⟨fun _ => undef, ?_⟩, fun t v htv _ => hF.slot t v (keys_look hkeys htv)⟩
    · intro j hj
      simp [Array.getD_eq_getD_getElem?, Array.getElem?_replicate] at hj
      split at hj <;> simp at hj
    · intro j hj
      simp [Array.getD_eq_getD_getElem?, Array.getElem?_replicate] at hj
      split at hj <;> simp at hj
  refine draw_all (c := .region id ops true) hd hdn' hpl hops ?_ ops.size _ a _ (by simp [opsOf]) ?_ h0
  · intro a' w' listed hall hk
    obtain ⟨hkp, hdef, hsz, _, ⟨vs, hvs⟩, hbase⟩ := hk
    refine h a' w' vs hkp (fun j hj => (hvs j (hall j hj)).1) ⟨hdef, hsz, fun t v hv => ?_⟩
    rcases look_append hv with h1 | h1
    · obtain ⟨j, hj, hdj, rfl⟩ := look_vals h1
      obtain ⟨h2, h3⟩ := hvs j (hall j (List.mem_range.1 hj))
      rw [Spec.val_ok h2]
      exact h3 t hdj
    · obtain ⟨h2, h3⟩ := look_rest h1
      exact hbase t v h2 (fun j _ => h3 j)
  · refine Nat.le_trans (List.length_filter_le _ _) ?_
    simp [opsOf]
end
theorem lt_zero_all {p : Nat → Prop} : ∀ i, i < 0 → p i := fun i h => absurd h (by omega)
theorem lt_succ_all {p : Nat → Prop} {n : Nat} (h : ∀ i, i < n → p i) (hn : p n) : ∀ i, i < n + 1 → p i := fun i hi => by
  by_cases e : i = n
  · subst e; exact hn
  · exact h i (by omega)
theorem opok_guard {c : Code} {i : Nat} {E : Env} {b : Bool} {g0 : Option (Nat × Bool)} (h0 : (coreAt c i).map (·.2.2.2) = some g0) (h : guardE c g0 E = some b) :
    ∀ g, (coreAt c i).map (·.2.2.2) = some g → guardE c g E = some b := by
  intro g hg
  rw [h0] at hg
  injection hg with hg
  subst hg
  exact h
theorem op_done {c : Code} {i : Nat} {d : Option Nat} {a a' : Act} {w w' : World} {v : Value} {s : Spec} (hd : dstAt c i = d) (ea : a' = a.put d v) (hK : Kp w w') (h : s.ok v w') :
    ∃ v, a' = a.put (dstAt c i) v ∧ Kp w w' ∧ s.ok v w' := ⟨v, by rw [hd]; exact ea, hK, h⟩
theorem mem_preds {c : Code} {i j : Nat} (h : memN (predsOf c i) j = true) : j ∈ predsOf c i := memN_iff.1 h
def Spec.sl (n : Nat) (xs : List Value) : Spec := .any (fun v w => ∃ A c, v = .slice A n c ∧ (Res.rd A xs).holds w)
  (fun _ _ _ hK ⟨A, c, hv, h⟩ => ⟨A, c, hv, (Res.rd A xs).stable (fun g hg => hK.kept g ((Res.rd A xs).lt h hg) (fun h => h)) h⟩)
theorem RO.of {w : World} {r : Res} (h : r.holds w) : RO noS w r := ⟨h, fun _ _ h => h⟩
end Go.Mor
namespace Go.Mor
open Go.RowKit
theorem storeCells_row {e size n c : Nat} {ad : Addr} {P : Program} : ∀ (vs : List Value) (off i : Nat) {xs : List Value} {w : World}, (∀ v ∈ vs, v.oneCell' = true) → (Res.row e size (some ad) n c xs).holds w → off + i + vs.length ≤ xs.length →
    ∃ w', (storeCells (ad.add off) vs i).run P w = .ok () w' ∧ Mem (Res.row e size (some ad) n c xs).fp w w' [.row e size (some ad) n c (xs.take (off + i) ++ vs ++ xs.drop (off + i + vs.length))]
  | [], off, i, xs, w, _, hb, _ => ⟨w, by simp [storeCells], by simpa using Mem.initS hb⟩
  | v :: vs, off, i, xs, w, h1, hb, hl => by
    simp only [List.length_cons] at hl
    have hm := Mem.set_row (j := off + i) hb v
    have hb' := hm.get 0 rfl
    obtain ⟨w', hr, hm'⟩ := storeCells_row vs off (i + 1) (fun u hu => h1 u (List.mem_cons_of_mem _ hu)) hb' (by simp; omega)
    refine ⟨w', ?_, ?_⟩
    · have hlt : off + i < xs.length := by omega
      obtain ⟨a', ha', hcell⟩ := row_rd hb (off + i) xs[off + i] (by simp [hlt])
      injection ha' with ha'
      subst ha'
      have hst : (store (ad.add (off + i)) v).run P w = .ok () (w.setCell (ad.add (off + i)) v) := by
        rw [run_store P w _ v .plain (h1 v (List.mem_cons_self ..)), hcell]; simp [row_frozen hb]
      simp only [storeCells, Sem.run_bind, add_add, hst, Result.andThen_ok]
      simpa [add_add] using hr
    · have hlist : (xs.set (off + i) v).take (off + (i + 1)) ++ vs ++ (xs.set (off + i) v).drop (off + (i + 1) + vs.length) = xs.take (off + i) ++ v :: vs ++ xs.drop (off + i + (v :: vs).length) := by
        rw [← Nat.add_assoc, List.take_succ_eq_append_getElem (by simp; omega), List.drop_set, if_pos (by omega)]
        simp [List.take_set_of_le (Nat.le_refl _), Nat.add_assoc, Nat.add_comm 1]
      rw [hlist] at hm'
      have := hm.mod 0 rfl hm'
      simpa using this
theorem zeroCells_one (z : Value) (n : Nat) : (Builtin.zeroCells #[z] n).toList = List.replicate n z := by
  apply List.ext_getElem?
  intro j
  by_cases hj : j < n
  · simp [Builtin.zeroCells, hj, Nat.mod_one]
  · simp [Builtin.zeroCells, hj]
section
variable {P : Program} {c : Code} {K : Act → World → Prop} {Q : Exit → Act → World → Prop} {a : Act} {w w0 : World} {S : Nat → Prop} {L : List Res} {k k' : Nat} {N : FN} {env : Env}
variable {d : Option Nat} {ty : Nat} {g : Option (Nat × Bool)}
theorem From_clear {t : TypeId} {x : Operand} (hk : coreAt c k = some (d, .call { callee := .builtin .clear, args := #[x], argTypes := #[t] }, ty, g)) (hF : Fr a N env) (hg : guardE c g env = some true) (hd : okd d N = true) (hk' : k + 1 = k')
    {e : Nat} {z : Value} (ht : P.underlying t = some (.slice e)) (hi : (P.info? e).map (fun i => (i.size, i.zero)) = some (1, some z)) (hz : z.oneCell' = true)
    {ad : Addr} {off m cap' n cap : Nat} {xs : List Value} (hx : ev env x = some (.slice (some (ad.add off)) m cap'))
    (hM : Mem S w0 w L) (i : Nat) (hL : L[i]? = some (.row e 1 (some ad) n cap xs)) (hm : off + m ≤ n)
    (h : ∀ w', Mem S w0 w' (L.set i (.row e 1 (some ad) n cap (xs.take off ++ List.replicate m z ++ xs.drop (off + m)))) → True → ∀ a', a' = a.put d undef → Fr a' N (putE env d undef) → From P c K Q k' a' w') : From P c K Q k a w := by
  subst hk'
  have hrow := hM.get i hL
  have hlen := row_len hrow
  obtain ⟨w', hr, hmm⟩ := storeCells_row (P := P) (List.replicate m z) off 0 (by intro v hv; rw [List.eq_of_mem_replicate hv]; exact hz) hrow (by simp; omega)
  simp only [Nat.add_zero, List.length_replicate] at hmm
  refine From_val hk hF hg (v := undef) (w' := w') (fun o ho hty => ?_) (h w' (by simpa using hM.mod i hL hmm) trivial _ rfl (hF.put hd _))
  unfold execOp
  rw [ho]
  cases hi' : P.info? e with
  | none => simp [hi'] at hi
  | some inf =>
    simp only [hi', Option.map_some, Option.some.injEq, Prod.mk.injEq] at hi
    obtain ⟨hs, hzz⟩ := hi
    have hz0 : (zeroValue e).run P w = .ok z w := by simp [zeroValue, typeInfo, hi', hzz]
    simp only [resolve, invoke, builtin, Sem.run_bind, Sem.run_pure, Result.andThen_ok, List.map_toArray, List.map_cons, List.map_nil, hF.ev hx, Builtin.clear_]
    simp only [show (#[t] : Array TypeId)[0]? = some t from rfl, show (#[Value.slice (some (ad.add off)) m cap'] : Array Value)[0]? = some (.slice (some (ad.add off)) m cap') from rfl, Sem.run_bind, run_underlying ht, Result.andThen_ok]
    cases m with
    | zero =>
      simp only [List.replicate_zero, storeCells, Sem.run_pure, Result.ok.injEq, true_and] at hr
      subst hr
      simp [undef]
    | succ m =>
      simp only [Sem.run_bind, hz0, Result.andThen_ok, one_cells hz, zeroCells_one, hr]
      rfl
end
theorem Mem.take_row {S : Nat → Prop} {w0 w : World} {L : List Res} {e size n cap : Nat} {A : Option Addr} {xs : List Value} (hM : Mem S w0 w L) (i : Nat) (hL : L[i]? = some (.row e size A n cap xs)) (m : Nat) (hm : m ≤ n) :
    Mem S w0 w (L.set i (.row e size A m cap (xs.take (m * size)))) := by
  refine hM.say i hL (fun h => ?_) (fun g hg => hg)
  have hlen := row_len h
  rcases h.2 with ⟨h1, h2⟩ | ⟨g, cap', cur, hv, hb, hg, hnc, hcm, hcs, ht⟩
  · injection h1 with h1 h3 h4
    have : m = 0 := by omega
    subst h1
    subst h4
    subst this
    refine ⟨by simp, .inl ⟨rfl, rfl⟩⟩
  · injection hv with hv h2 h3
    subst hv
    subst h3
    have hms : m * size ≤ n * size := Nat.mul_le_mul_right _ hm
    refine ⟨by rw [List.length_take, hlen]; omega, .inr ⟨g, cap, cur, rfl, hb, hg, by omega, hcm, hcs, ?_⟩⟩
    rw [← ht, List.take_take]
    congr 1
    omega
end Go.Mor
namespace Go.Mor
open Go.RowKit
def setB (ls : Nat → Bool) (i : Nat) : Nat → Bool := fun j => match Nat.beq j i with
  | true => true
  | false => ls j
def setV (vs : Nat → Value) (i : Nat) (v : Value) : Nat → Value := fun j => match Nat.beq j i with
  | true => v
  | false => vs j
def Closed (c : Code) (ls : Nat → Bool) : Prop := ∀ j, ls j = true → ∀ k, k ∈ predsOf c j → ls k = true
def reach (c : Code) : Nat → Nat → Nat → Bool
  | 0, _, _ => false
  | n + 1, j, i => memN (predsOf c j) i || (predsOf c j).any (fun k => reach c n k i)
theorem notyet {c : Code} {ls : Nat → Bool} (hc : Closed c ls) {i : Nat} (hi : ls i = false) : ∀ {n j : Nat}, reach c n j i = true → ls j = false
  | 0, j, h => by simp [reach] at h
  | n + 1, j, h => by
    cases hq : ls j with
    | false => rfl
    | true =>
      exfalso
      simp only [reach, Bool.or_eq_true, List.any_eq_true] at h
      rcases h with h | ⟨k, hk, h⟩
      · rw [hc j hq i (memN_iff.1 h)] at hi
        cases hi
      · have := notyet hc hi h
        rw [hc j hq k hk] at this
        cases this
theorem donebefore {c : Code} {ls : Nat → Bool} (hc : Closed c ls) {i : Nat} (hp : ∀ k, k ∈ predsOf c i → ls k = true) : ∀ {n j : Nat}, reach c n i j = true → ls j = true := by
  have key : ∀ {n i' j : Nat}, ls i' = true → reach c n i' j = true → ls j = true := by
    intro n
    induction n with
    | zero => intro i' j _ h; simp [reach] at h
    | succ n ih =>
      intro i' j hi h
      simp only [reach, Bool.or_eq_true, List.any_eq_true] at h
      rcases h with h | ⟨k, hk, h⟩
      · exact hc i' hi j (memN_iff.1 h)
      · exact ih (hc i' hi k hk) h
  intro n j h
  cases n with
  | zero => simp [reach] at h
  | succ n =>
    simp only [reach, Bool.or_eq_true, List.any_eq_true] at h
    rcases h with h | ⟨k, hk, h⟩
    · exact hp j (memN_iff.1 h)
    · exact key (hp k hk) h
def OpOKJ (P : Program) (c : Code) (Q : Exit → Act → World → Prop) (N : FN) (env0 : Env) (sp : Nat → Spec) (J : (Nat → Bool) → (Nat → Value) → World → Prop) (i : Nat) : Prop :=
  ∀ (a : Act) (w : World) (ls : Nat → Bool) (vs : Nat → Value) (rest : Env), J ls vs w → ls i = false → Closed c ls → (∀ j, j ∈ predsOf c i → ls j = true ∧ (sp j).ok (vs j) w) → Fr a N (predE c i sp vs env0 ++ rest) →
    ∃ b, (∀ g, (coreAt c i).map (·.2.2.2) = some g → guardE c g (predE c i sp vs env0 ++ rest) = some b) ∧
      (b = true → From P (one c i) (fun a' w' => ∃ v, a' = a.put (dstAt c i) v ∧ (sp i).ok v w' ∧ J (setB ls i) (setV vs i v) w') Q 0 a w) ∧ (b = false → (sp i).ok undef w ∧ J (setB ls i) (setV vs i undef) w)
theorem okG {c : Code} {i : Nat} {E : Env} {g0 : Option (Nat × Bool)} {X Y : Prop} (hx : X) (h0 : (coreAt c i).map (·.2.2.2) = some g0 := by kernel_rfl) (h : guardE c g0 E = some true := by kernel_rfl) : ∃ b, (∀ g, (coreAt c i).map (·.2.2.2) = some g → guardE c g E = some b) ∧ (b = true → X) ∧ (b = false → Y) :=
  ⟨true, opok_guard h0 h, fun _ => hx, fun h => Bool.noConfusion h⟩
section
variable {P : Program} {c : Code} {K : Act → World → Prop} {Q : Exit → Act → World → Prop} {N : FN} {env0 : Env} {sp : Nat → Spec} {J : (Nat → Bool) → (Nat → Value) → World → Prop}
def KnownJ (c : Code) (N : FN) (env0 : Env) (sp : Nat → Spec) (J : (Nat → Bool) → (Nat → Value) → World → Prop) (listed : Array Bool) (a : Act) (w : World) : Prop :=
  ∃ (ls : Nat → Bool) (vs : Nat → Value), (∀ j, j < listed.size → ls j = listed.getD j false) ∧ (∀ j, listed.size ≤ j → ls j = false) ∧ J ls vs w ∧ a.defers = N.D ∧ a.tmps.size = N.n ∧ Closed c ls ∧
  (∀ j, ls j = true → (sp j).ok (vs j) w ∧ ∀ d, dstAt c j = some d → a.tmps[d]? = some (vs j)) ∧
  (∀ t v, (t, v) ∈ env0 → (∀ j, ls j = true → dstAt c j ≠ some t) → a.tmps[t]? = some v)
theorem drawJ_step (hd : dstsOk c = true) (hdn : ∀ i d, dstAt c i = some d → d < N.n) (hdet : ∀ j v w w', (sp j).ok v w → (sp j).ok v w') {i : Nat} (hi : OpOKJ P c Q N env0 sp J i)
    {listed : Array Bool} {a : Act} {w : World} (hn : listed.size = (opsOf c).size) (hr : i ∈ Region.ready .any (opsOf c) listed) (hk : KnownJ c N env0 sp J listed a w)
    {G : Act → World → Prop} (hG : ∀ a' w', KnownJ c N env0 sp J (listed.setIfInBounds i true) a' w' → G a' w') : wpOp P (opsOf c) (Exit.then K Q) i G a w := by
  obtain ⟨hlt, hnl, o, ho, hpre⟩ := ready_spec hr
  obtain ⟨ls, vs, hls, hls', hJ, hdef, hsz, hcl, hvs, hbase⟩ := hk
  have hnl' : ls i = false := by
    rw [hls i (by omega)]
    have : i < listed.size := by omega
    simp [Array.getD, this] at hnl ⊢
    exact hnl
  have hlts : ∀ j, ls j = true → j < listed.size := by
    intro j hj
    rcases Nat.lt_or_ge j listed.size with h | h
    · exact h
    · rw [hls' j h] at hj; cases hj
  have hpl : ∀ j, j ∈ predsOf c i → ls j = true := by
    intro j hj
    simp only [predsOf, ho, List.mem_map, List.mem_filter] at hj
    obtain ⟨e, ⟨he, hb⟩, rfl⟩ := hj
    have h1 := hpre e he hb
    have h2 : e.on < listed.size := by
      rcases Nat.lt_or_ge e.on listed.size with h | h
      · exact h
      · have h3 : ¬ (e.on < listed.size) := by omega
        simp [Array.getD, h3] at h1
    rw [hls _ h2]
    exact h1
  have hdi : dstAt c i = o.dst := by simp [dstAt, ho]
  have hF : Fr a N (predE c i sp vs env0 ++ []) := by
    refine ⟨hdef, hsz, fun t v hv => ?_⟩
    rw [List.append_nil] at hv
    rcases look_append hv with h1 | h1
    · obtain ⟨j, hj, hdj, rfl⟩ := look_vals h1
      obtain ⟨h2, h3⟩ := hvs j (hpl j hj)
      rw [Spec.val_ok h2]
      exact h3 t hdj
    · obtain ⟨h2, h3⟩ := base_spec h1
      refine hbase t v h2 (fun j hj hdj => ?_)
      have := hcl j hj i (h3 j hdj)
      rw [hnl'] at this
      cases this
  obtain ⟨b, hb, hrun, hskip⟩ := hi a w ls vs [] hJ hnl' hcl (fun j hj => ⟨hpl j hj, (hvs j (hpl j hj)).1⟩) hF
  have hcore : coreAt c i = some (o.dst, o.op, o.type, o.guard) := by simp [coreAt, ho]
  have hw := guard_ok (c := c) hF rfl (hb _ (by rw [hcore]; rfl))
  have hsi : ∀ j, setB ls i j = true → j = i ∨ ls j = true := by
    intro j hj
    simp only [setB] at hj
    cases hq : Nat.beq j i with
    | true => exact .inl (Nat.eq_of_beq_eq_true hq)
    | false => rw [hq] at hj; exact .inr hj
  have hsi' : ∀ j, ls j = true → setB ls i j = true := by
    intro j hj
    simp only [setB]
    cases hq : Nat.beq j i <;> simp [hj]
  have hsii : setB ls i i = true := by simp [setB]
  have hvi : setV vs i = fun v j => if j = i then v else vs j := by
    funext v j
    simp only [setV]
    cases hq : Nat.beq j i with
    | true => simp [Nat.eq_of_beq_eq_true hq]
    | false =>
      have : j ≠ i := fun e => by subst e; simp at hq
      simp [this]
  -- what is known behind it
  have next : ∀ v w', (sp i).ok v w' → J (setB ls i) (setV vs i v) w' → KnownJ c N env0 sp J (listed.setIfInBounds i true) (a.put o.dst v) w' := by
    intro v w' hv hJ'
    refine ⟨setB ls i, setV vs i v, ?_, ?_, hJ', by cases hdd : o.dst <;> simp [Act.put, hdef], by cases hdd : o.dst <;> simp [Act.put, hsz], ?_, ?_, ?_⟩
    · intro j hj
      have hj' : j < listed.size := by simpa using hj
      by_cases e : i = j
      · subst e
        rw [hsii]
        simp [Array.getD_eq_getD_getElem?, hj']
      · have hb : Nat.beq j i = false := by
          cases hq : Nat.beq j i with
          | false => rfl
          | true => exact absurd (Nat.eq_of_beq_eq_true hq).symm e
        simp only [setB, hb]
        rw [hls j hj']
        simp [Array.getD_eq_getD_getElem?, Array.getElem?_setIfInBounds_ne e]
    · intro j hj
      have hj' : listed.size ≤ j := by simpa using hj
      have hb : Nat.beq j i = false := by
        cases hq : Nat.beq j i with
        | false => rfl
        | true => have := Nat.eq_of_beq_eq_true hq; omega
      simp only [setB, hb]
      exact hls' j hj'
    · intro j hj k hk
      rcases hsi j hj with rfl | h1
      · exact hsi' k (hpl k hk)
      · exact hsi' k (hcl j h1 k hk)
    · intro j hj
      rw [hvi]
      rcases hsi j hj with rfl | h1
      · refine ⟨by simpa using hv, fun d hdj => ?_⟩
        rw [hdi] at hdj
        simp only [hdj, Act.put, if_true]
        have := hdn j d (by rw [hdi]; exact hdj)
        rw [Array.getElem?_setIfInBounds_self_of_lt (by omega)]
      · have hne : j ≠ i := fun e => by subst e; rw [hnl'] at h1; cases h1
        obtain ⟨h2, h3⟩ := hvs j h1
        refine ⟨by simpa [hne] using hdet j _ _ _ h2, fun d hdj => ?_⟩
        simp only [hne, if_false]
        cases hdd : o.dst with
        | none => exact h3 d hdj
        | some d' =>
          simp only [Act.put]
          have : d' ≠ d := fun e => by
            subst e
            exact hne (dsts_ne hd hdj (by rw [hdi]; exact hdd))
          rw [Array.getElem?_setIfInBounds_ne this]
          exact h3 d hdj
    · intro t u htu hj
      have h1 := hbase t u htu (fun j hj' => hj j (hsi' j hj'))
      cases hdd : o.dst with
      | none => exact h1
      | some d' =>
        simp only [Act.put]
        have : d' ≠ t := fun e => by
          subst e
          exact hj i hsii (by rw [hdi]; exact hdd)
        rw [Array.getElem?_setIfInBounds_ne this]
        exact h1
  unfold wpOp
  rw [ho]
  simp only []
  rw [hw]
  cases b with
  | false =>
    simp only [Bool.false_eq_true, if_false]
    obtain ⟨h1, h2⟩ := hskip rfl
    exact hG _ _ (next undef w h1 h2)
  | true =>
    simp only [if_true]
    have h1 := hrun rfl
    unfold From at h1
    rw [one_core ho] at h1
    simp only [List.drop_zero] at h1
    unfold wpList at h1
    rw [if_pos (by simp [Region.wanted])] at h1
    rcases h1 with h1 | ⟨h1, h2⟩
    · refine .inl ?_
      have h3 : o.wp P a w (fun a' w' => ∃ v, a' = a.put (dstAt c i) v ∧ (sp i).ok v w' ∧ J (setB ls i) (setV vs i v) w') (Exit.then K Q) := by
        have this : o.wp P a w (fun a' w' => ∃ v, a' = a.put (dstAt c i) v ∧ (sp i).ok v w' ∧ J (setB ls i) (setV vs i v) w') (Exit.then (fun a' w' => ∃ v, a' = a.put (dstAt c i) v ∧ (sp i).ok v w' ∧ J (setB ls i) (setV vs i v) w') Q) := h1
        unfold Oper.wp at this ⊢
        generalize (execOp a.eval o).run P w = r at *
        cases r with
        | ok n w' =>
          cases n <;> simp only [Oper.upon] at this ⊢ <;> first
            | exact this
            | exact Calls.mono this (fun e w'' he => by cases e <;> exact he)
        | halt x w' => cases x <;> simp only [Oper.upon] at this ⊢ <;> exact this
      refine Oper.wp_mono ?_ h3
      rintro a' w' ⟨v, rfl, hv, hJv⟩
      rw [hdi]
      exact hG _ _ (next v w' hv hJv)
    · refine .inr ⟨h1, ?_⟩
      obtain ⟨a0, w0, h0⟩ := h2
      exact ⟨a0, w0, h0⟩
theorem drawJ_all (hd : dstsOk c = true) (hdn : ∀ i d, dstAt c i = some d → d < N.n) (hdet : ∀ j v w w', (sp j).ok v w → (sp j).ok v w') (hpl : predsLt c = true) (hops : ∀ i, i < (opsOf c).size → OpOKJ P c Q N env0 sp J i)
    (hend : ∀ a w, (∀ listed : Array Bool, listed.size = (opsOf c).size → (∀ j, j < (opsOf c).size → listed.getD j false = true) → KnownJ c N env0 sp J listed a w → K a w)) :
    ∀ (fuel : Nat) (listed : Array Bool) (a : Act) (w : World), listed.size = (opsOf c).size → ((List.range (opsOf c).size).filter (fun j => !listed.getD j false)).length ≤ fuel → KnownJ c N env0 sp J listed a w →
      wpAny P .any (opsOf c) (Exit.then K Q) fuel listed a w := by
  have none_ready : ∀ listed : Array Bool, listed.size = (opsOf c).size → Region.ready .any (opsOf c) listed = [] → ∀ j, j < (opsOf c).size → listed.getD j false = true := by
    intro listed hsz hr j
    induction j using Nat.strongRecOn with
    | _ j ih =>
      intro hj
      cases hq : listed.getD j false with
      | true => rfl
      | false =>
        exfalso
        have : j ∈ Region.ready .any (opsOf c) listed := by
          simp only [Region.ready, List.mem_filter, List.mem_range, Bool.and_eq_true, Bool.not_eq_true']
          have hjl : j < listed.size := by omega
          refine ⟨hj, ?_, ?_⟩
          · simp [Array.getD, hjl] at hq ⊢
            exact hq
          · have ho : (opsOf c)[j]? = some (opsOf c)[j] := by simp [hj]
            simp only [ho, Option.map_some, Option.getD_some]
            rw [Array.all_eq_true_iff_forall_mem]
            intro e he
            cases hb : Region.binds .any e with
            | false => rfl
            | true =>
              have hmem : e.on ∈ predsOf c j := by
                simp only [predsOf, ho, List.mem_map, List.mem_filter]
                exact ⟨e, ⟨Array.mem_toList_iff.2 he, hb⟩, rfl⟩
              have hlt : e.on < j := by
                simp only [predsLt, List.all_eq_true, List.mem_range] at hpl
                have := hpl j hj e.on hmem
                simpa [Nat.blt_eq] using this
              simp [ih e.on hlt (by omega)]
        rw [hr] at this
        simp at this
  intro fuel
  induction fuel with
  | zero =>
    intro listed a w hsz hf hk
    have hall : ∀ j, j < (opsOf c).size → listed.getD j false = true := by
      intro j hj
      cases hq : listed.getD j false with
      | true => rfl
      | false =>
        have : j ∈ (List.range (opsOf c).size).filter (fun j => !listed.getD j false) := List.mem_filter.2 ⟨List.mem_range.2 hj, by rw [hq]; rfl⟩
        have := List.length_pos_of_mem this
        omega
    refine ⟨?_, hend a w listed hsz hall hk⟩
    cases hr : Region.ready .any (opsOf c) listed with
    | nil => rfl
    | cons i r =>
      exfalso
      have hi : i ∈ Region.ready .any (opsOf c) listed := by rw [hr]; simp
      obtain ⟨h1, h2, _⟩ := ready_spec hi
      have := hall i h1
      have hil : i < listed.size := by omega
      simp [Array.getD, hil] at h2 this
      rw [h2] at this
      cases this
  | succ fuel ih =>
    intro listed a w hsz hf hk
    refine ⟨fun hr => hend a w listed hsz (none_ready listed hsz hr) hk, fun i hi => ?_⟩
    obtain ⟨h1, h2, _⟩ := ready_spec hi
    refine drawJ_step hd hdn hdet (hops i h1) hsz hi hk (fun a' w' hk' => ?_)
    refine ih _ a' w' (by simpa using hsz) ?_ hk'
    have hil : i < listed.size := by omega
    have hni : listed.getD i false = false := by
      simp [Array.getD, hil] at h2 ⊢
      exact h2
    have hlt : ((List.range (opsOf c).size).filter (fun j => !(listed.setIfInBounds i true).getD j false)).length < ((List.range (opsOf c).size).filter (fun j => !listed.getD j false)).length := by
      have hsub : ((List.range (opsOf c).size).filter (fun j => !(listed.setIfInBounds i true).getD j false)) = ((List.range (opsOf c).size).filter (fun j => !listed.getD j false)).filter (fun j => !(Nat.beq j i)) := by
        rw [List.filter_filter]
        apply List.filter_congr
        intro j _
        by_cases e : i = j
        · subst e
          simp [Array.getD_eq_getD_getElem?, hil]
        · have hb : Nat.beq j i = false := by
            cases hq : Nat.beq j i with
            | false => rfl
            | true => exact absurd (Nat.eq_of_beq_eq_true hq).symm e
          simp [Array.getD_eq_getD_getElem?, Array.getElem?_setIfInBounds_ne e, hb]
      rw [hsub]
      have hmem : i ∈ (List.range (opsOf c).size).filter (fun j => !listed.getD j false) := List.mem_filter.2 ⟨List.mem_range.2 h1, by rw [hni]; rfl⟩
      refine List.length_filter_lt_length_iff_exists.2 ⟨i, hmem, by simp⟩
    omega
theorem W_drawJ (hk : kind c = .region true) (hm : P.follows .mixedOrders = true) {a : Act} {wr : World} (sp : Nat → Spec) (J : (Nat → Bool) → (Nat → Value) → World → Prop) (hd : dstsOk c = true) (hpl : predsLt c = true) (hF : Fr a N env0) (hkeys : keysOk env0 = true)
    (hdn : (List.range (opsOf c).size).all (fun i => okd (dstAt c i) N) = true) (hdet : ∀ j v w w', (sp j).ok v w → (sp j).ok v w')
    (h0 : J (fun _ => false) (fun _ => undef) wr.drew)
    (hops : ∀ i, i < (opsOf c).size → OpOKJ P c Q N env0 sp J i)
    (h : ∀ a' w' (ls : Nat → Bool) (vs : Nat → Value), (∀ j, j < (opsOf c).size → ls j = true) → J ls vs w' → (∀ j, j < (opsOf c).size → (sp j).ok (vs j) w') → Fr a' N (valsE c sp vs (List.range (opsOf c).size) ++ restE c env0) → K a' w') : W P c K Q a wr := by
  have hdn' : ∀ i d, dstAt c i = some d → d < N.n := by
    intro i d hi
    have hlt : i < (opsOf c).size := by
      simp only [dstAt] at hi
      cases ho : (opsOf c)[i]? with
      | none => simp [ho] at hi
      | some o => exact (Array.getElem?_eq_some_iff.1 ho).1
    simp only [List.all_eq_true, List.mem_range] at hdn
    have := hdn i hlt
    rw [hi] at this
    simpa [okd, Nat.blt_eq] using this
  cases c <;> simp [kind] at hk
  rename_i id ops dr
  subst hk
  refine wp_region_any hm ?_
  have h1 : KnownJ (.region id ops true) N env0 sp J (Array.replicate ops.size false) a { wr with drawn := wr.drawn + 1 } := by
    refine ⟨fun _ => false, fun _ => undef, ?_, fun _ _ => rfl, h0, hF.defers, hF.size, (fun _ hj => absurd hj (by simp)), (fun _ hj => absurd hj (by simp)), fun t v htv _ => hF.slot t v (keys_look hkeys htv)⟩
    intro j hj
    simp at hj
    simp [Array.getD_eq_getD_getElem?, hj]
  refine drawJ_all (c := .region id ops true) hd hdn' hdet hpl hops ?_ ops.size _ a _ (by simp [opsOf]) ?_ h1
  · intro a' w' listed hsz hall hk
    obtain ⟨ls, vs, hls, _, hJ, hdef, hsz', _, hvs, hbase⟩ := hk
    have hlt : ∀ j, j < (opsOf (.region id ops true)).size → ls j = true := fun j hj => by rw [hls j (by omega)]; exact hall j hj
    refine h a' w' ls vs hlt hJ (fun j hj => (hvs j (hlt j hj)).1) ⟨hdef, hsz', fun t v hv => ?_⟩
    rcases look_append hv with h1 | h1
    · obtain ⟨j, hj, hdj, rfl⟩ := look_vals h1
      obtain ⟨h2, h3⟩ := hvs j (hlt j (List.mem_range.1 hj))
      rw [Spec.val_ok h2]
      exact h3 t hdj
    · obtain ⟨h2, h3⟩ := look_rest h1
      exact hbase t v h2 (fun j _ => h3 j)
  · refine Nat.le_trans (List.length_filter_le _ _) ?_
    simp [opsOf]
end
def Spec.free : Spec := .any (fun _ _ => True) (fun _ _ _ _ _ => trivial)
theorem op_doneJ {c : Code} {i : Nat} {d : Option Nat} {a a' : Act} {w' : World} {v : Value} {s : Spec} {Z : Value → Prop} (hd : dstAt c i = d) (ea : a' = a.put d v) (h : s.ok v w') (hJ : Z v) :
    ∃ v, a' = a.put (dstAt c i) v ∧ s.ok v w' ∧ Z v := ⟨v, by rw [hd]; exact ea, h, hJ⟩
inductive Plain : List Spec → Prop where
  | nil : Plain []
  | det {v r} : Plain r → Plain (.det v :: r)
  | free {r} : Plain r → Plain (Spec.free :: r)
theorem plain_ok {l : List Spec} (h : Plain l) : ∀ (j : Nat) (v : Value) (w w' : World), (specAt l j).ok v w → (specAt l j).ok v w' := by
  induction h with
  | nil => intro j v w w' h; exact h
  | det _ ih =>
    intro j v w w' h
    cases j with
    | zero => exact h
    | succ j => exact ih j v w w' h
  | free _ ih =>
    intro j v w w' h
    cases j with
    | zero => exact h
    | succ j => exact ih j v w w' h
section
variable {S : Nat → Prop} {w0 w w' : World} {L : List Res}
theorem perm_front {α : Type} {L : List α} {i : Nat} {r : α} (hi : L[i]? = some r) : L.Perm (r :: L.eraseIdx i) := by
  induction L generalizing i with
  | nil => simp at hi
  | cons x L ih =>
    cases i with
    | zero => simp at hi; subst hi; simp
    | succ i =>
      simp at hi
      rw [List.eraseIdx_cons_succ]
      exact ((ih hi).cons x).trans (List.Perm.swap r x _)
theorem Mem.front (h : Mem S w0 w L) (i : Nat) {r : Res} (hi : L[i]? = some r) : Mem S w0 w (r :: L.eraseIdx i) := h.perm (perm_front hi)
end
end Go.Mor
namespace Go.Mor
open Go.RowKit
theorem From_binI {P : Program} {c : Code} {K : Act → World → Prop} {Q : Exit → Act → World → Prop} {a : Act} {w : World} {k k' : Nat} {N : FN} {env : Env} {d : Option Nat} {ty : Nat} {g : Option (Nat × Bool)}
    {op : BinOp} {t t' : TypeId} {x y : Operand} (hk : coreAt c k = some (d, .binOp op t x y t', ty, g)) (hF : Fr a N env) (hg : guardE c g env = some true) (hd : okd d N = true) (hk' : k + 1 = k')
    {kd kd' : IntKind} {i j : Int} {z : Value} (hx : ev env x = some (.int kd i)) (hy : ev env y = some (.int kd' j)) (hb : ∀ w, (binOp op t (.int kd i) (.int kd' j)).run P w = .ok z w)
    (h : ∀ a', a' = a.put d z → Fr a' N (putE env d z) → From P c K Q k' a' w) : From P c K Q k a w := by
  refine From_same hk hF hg hd hk' (fun o ho => ?_) h
  unfold execOp
  rw [ho]
  have he : (eqGuard op t x y (.int kd i) (.int kd' j)).run P w = .ok () w := by cases op <;> simp [eqGuard]
  simp only [hF.ev hx, hF.ev hy, Sem.run_bind, he, Result.andThen_ok, hb]
  rfl
section
variable {P : Program} {t : TypeId}
theorem bin_quo {i : Int} (m : Int) (h0 : 0 ≤ i) (h1 : i ≤ 9223372036854775807) (hm : 0 < m) (w : World) : (binOp .quo t (.int .i64 i) (.int .i64 m)).run P w = .ok (.int .i64 (i / m)) w := by
  have hne : m ≠ 0 := by omega
  have hle : i / m ≤ i := Int.ediv_le_self _ h0
  have h2 : 0 ≤ i / m := Int.ediv_nonneg h0 (by omega)
  have hw : IntKind.i64.wrap (i.tdiv m) = i / m := by
    rw [Int.tdiv_eq_ediv_of_nonneg h0]
    exact IntWalk.i64_in _ ⟨by omega, by omega⟩
  simp [binOp, Op.intDiv, hne, hw]
theorem bin_rem {i : Int} (m : Int) (h0 : 0 ≤ i) (hm : 0 < m) (w : World) : (binOp .rem t (.int .i64 i) (.int .i64 m)).run P w = .ok (.int .i64 (i % m)) w := by
  have hne : m ≠ 0 := by omega
  simp [binOp, Op.intDiv, hne, Int.tmod_eq_emod_of_nonneg h0]
theorem bin_quoN {i : Nat} (m : Nat) (h1 : i ≤ 9223372036854775807) (hm : 0 < m) (w : World) : (binOp .quo t (.int .i64 (i : Int)) (.int .i64 (m : Int))).run P w = .ok (.int .i64 ((i / m : Nat) : Int)) w :=
  bin_quo (i := (i : Int)) (m : Int) (by omega) (by omega) (by omega) w
theorem bin_remN {i : Nat} (m : Nat) (hm : 0 < m) (w : World) : (binOp .rem t (.int .i64 (i : Int)) (.int .i64 (m : Int))).run P w = .ok (.int .i64 ((i % m : Nat) : Int)) w :=
  bin_rem (i := (i : Int)) (m : Int) (by omega) (by omega) w
theorem two_pow_le {r : Nat} (h : r < 64) : (2 : Nat) ^ r < 2 ^ 64 := Nat.pow_lt_pow_right (by decide) h
theorem wrap_u64 {q : Nat} (h : q < 2 ^ 64) : IntKind.u64.wrap (q : Int) = (q : Int) := IntWalk.u64_in _ ⟨by omega, by omega⟩
theorem bin_shl {r : Nat} (h : r < 64) (w : World) : (binOp .shl t (.int .u64 1) (.int .i64 (r : Int))).run P w = .ok (.int .u64 ((2 ^ r : Nat) : Int)) w := by
  have h1 : ¬ ((r : Int) < 0) := by omega
  have hmin : min (r : Int).toNat IntKind.u64.bits = r := by simp [IntKind.bits]; omega
  have hw : IntKind.u64.wrap (1 * 2 ^ r : Int) = ((2 ^ r : Nat) : Int) := by
    have e : (1 * 2 ^ r : Int) = ((2 ^ r : Nat) : Int) := by simp
    rw [e]
    exact wrap_u64 (two_pow_le h)
  show (Op.shift .shl .u64 1 .i64 (r : Int)).run P w = _
  unfold Op.shift
  rw [if_neg h1]
  simp only [hmin, hw, Sem.run_pure]
theorem bin_or {x y : Nat} (hx : x < 2 ^ 64) (hy : y < 2 ^ 64) (w : World) : (binOp .or t (.int .u64 (x : Int)) (.int .u64 (y : Int))).run P w = .ok (.int .u64 ((x ||| y : Nat) : Int)) w := by
  have h3 : x ||| y < 2 ^ 64 := Nat.or_lt_two_pow hx hy
  have hw : IntKind.u64.wrap ((x ||| y : Nat) : Int) = ((x ||| y : Nat) : Int) := IntWalk.u64_in _ ⟨by omega, by omega⟩
  have hb : (BitVec.ofInt IntKind.u64.bits (x : Int) ||| BitVec.ofInt IntKind.u64.bits (y : Int)).toNat = x ||| y := by
    have e1 : BitVec.ofInt IntKind.u64.bits (x : Int) = BitVec.ofNat 64 x := by
      apply BitVec.eq_of_toNat_eq
      simp [IntKind.bits]
    have e2 : BitVec.ofInt IntKind.u64.bits (y : Int) = BitVec.ofNat 64 y := by
      apply BitVec.eq_of_toNat_eq
      simp [IntKind.bits]
    rw [e1, e2]
    show (BitVec.ofNat 64 x ||| BitVec.ofNat 64 y).toNat = _
    rw [BitVec.toNat_or, BitVec.toNat_ofNat, BitVec.toNat_ofNat, Nat.mod_eq_of_lt hx, Nat.mod_eq_of_lt hy]
  show (Op.intBits .or .u64 (x : Int) (y : Int)).run P w = _
  simp only [Op.intBits, Sem.run_pure, hb, hw]
theorem bin_and {x y : Nat} (hx : x < 2 ^ 64) (hy : y < 2 ^ 64) (w : World) : (binOp .and t (.int .u64 (x : Int)) (.int .u64 (y : Int))).run P w = .ok (.int .u64 ((x &&& y : Nat) : Int)) w := by
  have h3 : x &&& y < 2 ^ 64 := Nat.lt_of_le_of_lt Nat.and_le_left hx
  have hw : IntKind.u64.wrap ((x &&& y : Nat) : Int) = ((x &&& y : Nat) : Int) := IntWalk.u64_in _ ⟨by omega, by omega⟩
  have hb : (BitVec.ofInt IntKind.u64.bits (x : Int) &&& BitVec.ofInt IntKind.u64.bits (y : Int)).toNat = x &&& y := by
    have e1 : BitVec.ofInt IntKind.u64.bits (x : Int) = BitVec.ofNat 64 x := by
      apply BitVec.eq_of_toNat_eq
      simp [IntKind.bits]
    have e2 : BitVec.ofInt IntKind.u64.bits (y : Int) = BitVec.ofNat 64 y := by
      apply BitVec.eq_of_toNat_eq
      simp [IntKind.bits]
    rw [e1, e2]
    show (BitVec.ofNat 64 x &&& BitVec.ofNat 64 y).toNat = _
    rw [BitVec.toNat_and, BitVec.toNat_ofNat, BitVec.toNat_ofNat, Nat.mod_eq_of_lt hx, Nat.mod_eq_of_lt hy]
  show (Op.intBits .and .u64 (x : Int) (y : Int)).run P w = _
  simp only [Op.intBits, Sem.run_pure, hb, hw]
theorem bin_and1 {x : Nat} (hx : x < 2 ^ 64) (w : World) : (binOp .and t (.int .u64 (x : Int)) (.int .u64 1)).run P w = .ok (.int .u64 ((x &&& 1 : Nat) : Int)) w :=
  bin_and (y := 1) hx (by decide) w
theorem bin_shr {x r : Nat} (h : r < 64) (w : World) : (binOp .shr t (.int .u64 (x : Int)) (.int .i64 (r : Int))).run P w = .ok (.int .u64 ((x / 2 ^ r : Nat) : Int)) w := by
  have h1 : ¬ ((r : Int) < 0) := by omega
  have hmin : min (r : Int).toNat IntKind.u64.bits = r := by simp [IntKind.bits]; omega
  have e : (x : Int).fdiv (2 ^ r) = ((x / 2 ^ r : Nat) : Int) := by
    have e2 : (2 ^ r : Int) = ((2 ^ r : Nat) : Int) := by simp
    rw [e2, Int.fdiv_eq_ediv_of_nonneg _ (Int.natCast_nonneg _)]
    rfl
  show (Op.shift .shr .u64 (x : Int) .i64 (r : Int)).run P w = _
  unfold Op.shift
  rw [if_neg h1]
  simp only [hmin, e, Sem.run_pure]
end
def u64s (ws : List Nat) : List Value := ws.map (fun x : Nat => Value.int .u64 (x : Int))
def tb (ws : List Nat) (i : Nat) : Bool := (ws.getD (i / 64) 0).testBit (i % 64)
def putw (ws : List Nat) (i : Nat) : List Nat := ws.set (i / 64) (ws.getD (i / 64) 0 ||| 2 ^ (i % 64))
theorem u64s_get {ws : List Nat} {i : Nat} (h : i < ws.length) : (u64s ws)[i]? = some (.int .u64 ((ws.getD i 0 : Nat) : Int)) := by
  simp [u64s, List.getD, h]
theorem u64s_set (ws : List Nat) (i x : Nat) : u64s (ws.set i x) = (u64s ws).set i (.int .u64 (x : Int)) := by simp [u64s, List.map_set]
theorem u64s_len (ws : List Nat) : (u64s ws).length = ws.length := by simp [u64s]
theorem tb_put {ws : List Nat} {i : Nat} (hi : i / 64 < ws.length) (j : Nat) : tb (putw ws i) j = (decide (i = j) || tb ws j) := by
  unfold tb putw
  by_cases h : i / 64 = j / 64
  · have e : (ws.set (i / 64) (ws.getD (i / 64) 0 ||| 2 ^ (i % 64))).getD (j / 64) 0 = (ws.getD (i / 64) 0 ||| 2 ^ (i % 64)) := by
      rw [← h]; simp [List.getD, hi]
    rw [e, Nat.testBit_or, Nat.testBit_two_pow, ← h]
    have e2 : (i % 64 = j % 64) ↔ i = j := by omega
    simp only [e2]
    rw [Bool.or_comm]
  · have e : (ws.set (i / 64) (ws.getD (i / 64) 0 ||| 2 ^ (i % 64))).getD (j / 64) 0 = ws.getD (j / 64) 0 := by
      simp [List.getD, List.getElem?_set_ne h]
    rw [e]
    have : ¬ i = j := fun e => h (by rw [e])
    simp [this]
theorem tb_zero (k j : Nat) : tb (List.replicate k 0) j = false := by
  unfold tb
  have : (List.replicate k 0).getD (j / 64) 0 = 0 := by
    by_cases h : j / 64 < k
    · simp [List.getD, h]
    · simp [List.getD, h]
  rw [this, Nat.zero_testBit]
theorem bit_of (x r : Nat) : (((x / 2 ^ r &&& 1 : Nat) : Int) == 1) = x.testBit r := by
  rw [Nat.testBit, Nat.shiftRight_eq_div_pow, Nat.and_comm 1]
  rcases Nat.mod_two_eq_zero_or_one (x / 2 ^ r) with h | h
  · rw [Nat.and_one_is_mod, h]; rfl
  · rw [Nat.and_one_is_mod, h]; rfl
def Fit (ws : List Nat) : Prop := ∀ x, x ∈ ws → x < 2 ^ 64
theorem Fit.get {ws : List Nat} (h : Fit ws) (i : Nat) : ws.getD i 0 < 2 ^ 64 := by
  unfold List.getD
  cases hx : ws[i]? with
  | none => simp
  | some x => exact h x (List.mem_of_getElem? hx)
theorem Fit.put {ws : List Nat} (h : Fit ws) (i : Nat) : Fit (putw ws i) := by
  intro x hx
  unfold putw at hx
  rcases List.mem_or_eq_of_mem_set hx with h1 | h1
  · exact h x h1
  · subst h1
    exact Nat.or_lt_two_pow (h.get _) (two_pow_le (Nat.mod_lt _ (by decide)))
theorem Fit.zero (k : Nat) : Fit (List.replicate k 0) := by
  intro x hx
  rw [List.eq_of_mem_replicate hx]
  decide
end Go.Mor
namespace Go.Mor
open Go.RowKit
structure RowV where
  A : Option Addr
  n : Nat
  c : Nat
  xs : List Value
def nilV : RowV := ⟨none, 0, 0, []⟩
def RowV.res (e : Nat) (r : RowV) : Res := .row e 1 r.A r.n r.c r.xs
def slv (rows : List RowV) : List Value := rows.map (fun r => Value.slice r.A r.n r.c)
def Res.fam (e : Nat) (rows : List RowV) : Res where
  fp := fun g => ∃ r, r ∈ rows ∧ (r.res e).fp g
  holds w := (∀ r, r ∈ rows → (r.res e).holds w) ∧ rows.Pairwise (fun (r s : RowV) => ∀ g : Nat, (r.res e).fp g → ¬ (s.res e).fp g)
  stable h hw := ⟨fun r hr => (r.res e).stable (fun g hg => h g ⟨r, hr, hg⟩) (hw.1 r hr), hw.2⟩
  lt := by
    rintro w g hw ⟨r, hr, hg⟩
    exact (r.res e).lt (hw.1 r hr) hg
theorem nil_fp {e : Nat} {g : Nat} : ¬ (nilV.res e).fp g := by
  rintro ⟨a, ha, _⟩
  cases ha
theorem nil_holds (e : Nat) (w : World) : (nilV.res e).holds w := row_nil w e 1
theorem fam_get {w : World} {e : Nat} {rows : List RowV} (h : (Res.fam e rows).holds w) {t : Nat} {r : RowV} (ht : rows[t]? = some r) : (Res.row e 1 r.A r.n r.c r.xs).holds w := h.1 r (List.mem_of_getElem? ht)
theorem slv_get {rows : List RowV} {t : Nat} {r : RowV} (ht : rows[t]? = some r) : (slv rows)[t]? = some (.slice r.A r.n r.c) := by simp [slv, ht]
theorem slv_len (rows : List RowV) : (slv rows).length = rows.length := by simp [slv]
theorem slv_set (rows : List RowV) (t : Nat) (r : RowV) : slv (rows.set t r) = (slv rows).set t (.slice r.A r.n r.c) := by simp [slv, List.map_set]
theorem slv_append (rows : List RowV) (r : RowV) : slv (rows ++ [r]) = slv rows ++ [.slice r.A r.n r.c] := by simp [slv]
theorem Mem.nilfam (w : World) (e n : Nat) : Mem noS w w [.fam e (List.replicate n nilV)] := by
  refine ⟨rfl, rfl, rfl, Nat.le_refl _, fun _ _ _ => rfl, ?_, List.pairwise_singleton _ _⟩
  simp only [List.mem_singleton]
  rintro _ rfl
  refine ⟨⟨fun r hr => by rw [List.eq_of_mem_replicate hr]; exact nil_holds e w, ?_⟩, fun g hg => ?_⟩
  · rw [List.pairwise_replicate]
    exact .inr (fun g hg => (nil_fp hg).elim)
  · obtain ⟨r, hr, hg⟩ := hg
    rw [List.eq_of_mem_replicate hr] at hg
    exact (nil_fp hg).elim
section
variable {S : Nat → Prop} {w0 w : World} {L : List Res}
theorem Mem.focus {e : Nat} {rows : List RowV} (h : Mem S w0 w (.fam e rows :: L)) (t : Nat) {r : RowV} (ht : rows[t]? = some r) : Mem S w0 w (.fam e (rows.set t nilV) :: .row e 1 r.A r.n r.c r.xs :: L) := by
  have hp := List.pairwise_cons.1 h.apart
  have hf := h.own _ (List.mem_cons_self ..)
  obtain ⟨⟨hh, hpw⟩, hS⟩ := hf
  have hr : r ∈ rows := List.mem_of_getElem? ht
  have hset : ∀ s, s ∈ rows.set t nilV → s = nilV ∨ ∃ j, j ≠ t ∧ rows[j]? = some s := by
    intro s hs
    obtain ⟨j, hj⟩ := List.mem_iff_getElem?.1 hs
    by_cases e1 : t = j
    · subst e1
      have hlt := (List.getElem?_eq_some_iff.1 ht).1
      rw [List.getElem?_set_self hlt] at hj
      injection hj with hj
      exact .inl hj.symm
    · rw [List.getElem?_set_ne e1] at hj
      exact .inr ⟨j, fun h => e1 h.symm, hj⟩
  have sym : ∀ x y : RowV, (∀ g, (x.res e).fp g → ¬ (y.res e).fp g) → ∀ g, (y.res e).fp g → ¬ (x.res e).fp g := fun x y h g hy hx => h g hx hy
  refine ⟨h.os, h.tape, h.output, h.size, h.kept, ?_, ?_⟩
  · intro q hq
    rcases List.mem_cons.1 hq with rfl | hq
    · refine ⟨⟨fun s hs => ?_, ?_⟩, fun g hg => ?_⟩
      · rcases hset s hs with rfl | ⟨j, _, hj⟩
        · exact nil_holds e w
        · exact hh s (List.mem_of_getElem? hj)
      · rw [List.pairwise_iff_getElem]
        intro i j hi hj hij g hg hg'
        have gi : (rows.set t nilV)[i]? = some (rows.set t nilV)[i] := List.getElem?_eq_getElem hi
        have gj : (rows.set t nilV)[j]? = some (rows.set t nilV)[j] := List.getElem?_eq_getElem hj
        generalize (rows.set t nilV)[i] = x at *
        generalize (rows.set t nilV)[j] = y at *
        have hlt := (List.getElem?_eq_some_iff.1 ht).1
        by_cases e1 : t = i
        · subst e1
          rw [List.getElem?_set_self hlt] at gi
          injection gi with gi
          subst gi
          exact nil_fp hg
        · by_cases e2 : t = j
          · subst e2
            rw [List.getElem?_set_self hlt] at gj
            injection gj with gj
            subst gj
            exact nil_fp hg'
          · rw [List.getElem?_set_ne e1] at gi
            rw [List.getElem?_set_ne e2] at gj
            exact pair_get sym hpw gi gj (by omega) g hg hg'
      · obtain ⟨s, hs, hg⟩ := hg
        rcases hset s hs with rfl | ⟨j, _, hj⟩
        · exact (nil_fp hg).elim
        · exact hS g ⟨s, List.mem_of_getElem? hj, hg⟩
    · rcases List.mem_cons.1 hq with rfl | hq
      · exact ⟨hh r hr, fun g hg => hS g ⟨r, hr, hg⟩⟩
      · exact h.own q (List.mem_cons_of_mem _ hq)
  · refine List.pairwise_cons.2 ⟨?_, List.pairwise_cons.2 ⟨?_, hp.2⟩⟩
    · rintro q hq g ⟨s, hs, hg⟩ hg'
      rcases hset s hs with rfl | ⟨j, hj, hs⟩
      · exact nil_fp hg
      · rcases List.mem_cons.1 hq with rfl | hq
        · exact pair_get sym hpw hs ht hj g hg hg'
        · exact hp.1 q hq g ⟨s, List.mem_of_getElem? hs, hg⟩ hg'
    · intro q hq g hg hg'
      exact hp.1 q hq g ⟨r, hr, hg⟩ hg'
theorem Mem.unfocus {e n c : Nat} {A : Option Addr} {xs : List Value} {rows : List RowV} (h : Mem S w0 w (.fam e rows :: .row e 1 A n c xs :: L)) (t : Nat) (ht : rows[t]? = some nilV) :
    Mem S w0 w (.fam e (rows.set t ⟨A, n, c, xs⟩) :: L) := by
  have hp := List.pairwise_cons.1 h.apart
  have hq := List.pairwise_cons.1 hp.2
  obtain ⟨⟨hh, hpw⟩, hS⟩ := h.own _ (List.mem_cons_self ..)
  have hr := h.own _ (List.mem_cons_of_mem _ (List.mem_cons_self ..))
  have hlt := (List.getElem?_eq_some_iff.1 ht).1
  have far : ∀ s, s ∈ rows → ∀ g, (s.res e).fp g → ¬ (Res.row e 1 A n c xs).fp g := fun s hs g hg => hp.1 _ (List.mem_cons_self ..) g ⟨s, hs, hg⟩
  have hset : ∀ s, s ∈ rows.set t ⟨A, n, c, xs⟩ → s = ⟨A, n, c, xs⟩ ∨ s ∈ rows := by
    intro s hs
    exact (List.mem_or_eq_of_mem_set hs).symm
  have sym : ∀ x y : RowV, (∀ g, (x.res e).fp g → ¬ (y.res e).fp g) → ∀ g, (y.res e).fp g → ¬ (x.res e).fp g := fun x y h g hy hx => h g hx hy
  refine ⟨h.os, h.tape, h.output, h.size, h.kept, ?_, List.pairwise_cons.2 ⟨?_, hq.2⟩⟩
  · intro q hq'
    rcases List.mem_cons.1 hq' with rfl | hq'
    · refine ⟨⟨fun s hs => ?_, ?_⟩, fun g hg => ?_⟩
      · rcases hset s hs with rfl | hs
        · exact hr.1
        · exact hh s hs
      · rw [List.pairwise_iff_getElem]
        intro i j hi hj hij g hg hg'
        have gi : (rows.set t ⟨A, n, c, xs⟩)[i]? = some (rows.set t ⟨A, n, c, xs⟩)[i] := List.getElem?_eq_getElem hi
        have gj : (rows.set t ⟨A, n, c, xs⟩)[j]? = some (rows.set t ⟨A, n, c, xs⟩)[j] := List.getElem?_eq_getElem hj
        generalize (rows.set t ⟨A, n, c, xs⟩)[i] = x at *
        generalize (rows.set t ⟨A, n, c, xs⟩)[j] = y at *
        by_cases e1 : t = i
        · subst e1
          rw [List.getElem?_set_self hlt] at gi
          injection gi with gi
          subst gi
          rw [List.getElem?_set_ne (by omega)] at gj
          exact far y (List.mem_of_getElem? gj) g hg' hg
        · rw [List.getElem?_set_ne e1] at gi
          by_cases e2 : t = j
          · subst e2
            rw [List.getElem?_set_self hlt] at gj
            injection gj with gj
            subst gj
            exact far x (List.mem_of_getElem? gi) g hg hg'
          · rw [List.getElem?_set_ne e2] at gj
            exact pair_get sym hpw gi gj (by omega) g hg hg'
      · obtain ⟨s, hs, hg⟩ := hg
        rcases hset s hs with rfl | hs
        · exact hr.2 g hg
        · exact hS g ⟨s, hs, hg⟩
    · exact h.own q (List.mem_cons_of_mem _ (List.mem_cons_of_mem _ hq'))
  · rintro q hq' g ⟨s, hs, hg⟩ hg'
    rcases hset s hs with rfl | hs
    · exact hq.1 q hq' g hg hg'
    · exact hp.1 q (List.mem_cons_of_mem _ hq') g ⟨s, hs, hg⟩ hg'
theorem Mem.push {e n c : Nat} {A : Option Addr} {xs : List Value} {rows : List RowV} (h : Mem S w0 w (.fam e rows :: .row e 1 A n c xs :: L)) : Mem S w0 w (.fam e (rows ++ [⟨A, n, c, xs⟩]) :: L) := by
  have hp := List.pairwise_cons.1 h.apart
  have hq := List.pairwise_cons.1 hp.2
  obtain ⟨⟨hh, hpw⟩, hS⟩ := h.own _ (List.mem_cons_self ..)
  have hr := h.own _ (List.mem_cons_of_mem _ (List.mem_cons_self ..))
  refine ⟨h.os, h.tape, h.output, h.size, h.kept, ?_, List.pairwise_cons.2 ⟨?_, hq.2⟩⟩
  · intro q hq'
    rcases List.mem_cons.1 hq' with rfl | hq'
    · refine ⟨⟨fun s hs => ?_, ?_⟩, fun g hg => ?_⟩
      · rcases List.mem_append.1 hs with hs | hs
        · exact hh s hs
        · simp only [List.mem_singleton] at hs
          subst hs
          exact hr.1
      · refine List.pairwise_append.2 ⟨hpw, List.pairwise_singleton _ _, fun s hs s' hs' g hg hg' => ?_⟩
        simp only [List.mem_singleton] at hs'
        subst hs'
        exact hp.1 _ (List.mem_cons_self ..) g ⟨s, hs, hg⟩ hg'
      · obtain ⟨s, hs, hg⟩ := hg
        rcases List.mem_append.1 hs with hs | hs
        · exact hS g ⟨s, hs, hg⟩
        · simp only [List.mem_singleton] at hs
          subst hs
          exact hr.2 g hg
    · exact h.own q (List.mem_cons_of_mem _ (List.mem_cons_of_mem _ hq'))
  · rintro q hq' g ⟨s, hs, hg⟩ hg'
    rcases List.mem_append.1 hs with hs | hs
    · exact hp.1 q (List.mem_cons_of_mem _ hq') g ⟨s, hs, hg⟩ hg'
    · simp only [List.mem_singleton] at hs
      subst hs
      exact hq.1 q hq' g hg hg'
end
end Go.Mor
namespace Go.Mor
open Go.RowKit
theorem From_min {P : Program} {c : Code} {K : Act → World → Prop} {Q : Exit → Act → World → Prop} {a : Act} {w : World} {k k' : Nat} {N : FN} {env : Env} {d : Option Nat} {ty : Nat} {g : Option (Nat × Bool)}
    {ts : Array TypeId} {x y : Operand} (hk : coreAt c k = some (d, .call { callee := .builtin .min, args := #[x, y], argTypes := ts }, ty, g)) (hF : Fr a N env) (hg : guardE c g env = some true) (hd : okd d N = true) (hk' : k + 1 = k')
    {kd : IntKind} {i j : Int} (hx : ev env x = some (.int kd i)) (hy : ev env y = some (.int kd j)) (z : Int) (hz : z = if j < i then j else i)
    (h : ∀ a', a' = a.put d (.int kd z) → Fr a' N (putE env d (.int kd z)) → From P c K Q k' a' w) : From P c K Q k a w := by
  refine From_same hk hF hg hd hk' (fun o ho => ?_) h
  unfold execOp
  rw [ho]
  simp only [resolve, invoke, builtin, Sem.run_bind, Sem.run_pure, Result.andThen_ok, List.map_toArray, List.map_cons, List.map_nil, hF.ev hx, hF.ev hy, Builtin.min_, List.foldlM]
  subst hz
  simp [Builtin.min2]
  try (split <;> simp_all <;> omega)
theorem rd_drop {w : World} {ad : Addr} {xs : List Value} (h : (Res.rd (some ad) xs).holds w) (m : Nat) : (Res.rd (some (ad.add (m * 1))) (xs.drop m)).holds w := by
  intro i v hi
  rw [List.getElem?_drop] at hi
  obtain ⟨a', ha, hc⟩ := h (m + i) v hi
  injection ha with ha
  subst ha
  refine ⟨_, rfl, ?_⟩
  rw [add_add, Nat.mul_one]
  exact hc
end Go.Mor
namespace Go.Mor
open Go.RowKit
theorem results_cell1 {fn : Func} {t : Tmp} {ty : TypeId} (h : fn.results = #[.cell t ty]) (tmps : Array Value) (P : Program) (w : World) {ad : Addr} {vs : List Value} (hp : tmps.getD t undef = .pointer (some ad)) (ht : aggT P ty = some vs.length)
    (hc : ∀ (j : Nat) (v : Value), vs[j]? = some v → w.cell? (ad.add j) = some v) : (results fn tmps).run P w = .ok (.agg vs.toArray) w := by
  obtain ⟨h1, h2⟩ := isAgg_agg ht w
  have e : tmps[t]?.getD undef = .pointer (some ad) := by simpa using hp
  have ha : (asAddr (.pointer (some ad))).run P w = .ok ad w := rfl
  have hl : (loadVar ty ad).run P w = .ok (.agg vs.toArray) w := by simp [loadVar, h1, h2, run_loadCells_list (P := P) w ad vs hc]
  simp only [results, h]
  simp [Sem.run_bind, Result.andThen, e, ha, hl]
theorem outC {P : Program} {fn : Func} {R : Ending → World → Prop} {a : Act} {w : World} {N : FN} {env : Env} {t : Tmp} {ty : TypeId} {ad : Addr} {vs : List Value} (hF : Fr a N env) (hr : fn.results = #[.cell t ty]) (hv : look env t = some (.pointer (some ad)))
    (ht : aggT P ty = some vs.length) (hc : ∀ (j : Nat) (v : Value), vs[j]? = some v → w.cell? (ad.add j) = some v) (h : R (.returned (.agg vs.toArray)) w) (hD : N.D = [] := by rfl) : bodyPost P fn R .ret a w := by
  refine bodyPost_ret (v := .agg vs.toArray) ?_ (hF.defers.trans hD) h
  refine results_cell1 hr _ _ _ ?_ ht hc
  have := hF.ev (x := .tmp t) hv
  simpa only [Act.eval] using this
end Go.Mor

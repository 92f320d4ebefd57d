/-
  Texts of the proof, part 6.
-/
import Derived.Test.YtdcgcjibgihbbaaZg5
import Derived.MapKept
set_option maxRecDepth 10000
namespace Go.Mor
open Go.RowKit
def MapIs (w : World) (b : Nat) (l : List (Value × Value)) : Prop :=
  ∃ es clock, w.heap[b]? = some (.map es clock) ∧ es.toList.map (fun e => (e.key, e.val)) = l ∧ (∀ e, e ∈ es.toList → e.born < clock) ∧ (es.toList.map (·.born)).Nodup
def Res.map (b : Nat) (l : List (Value × Value)) : Res where
  fp := fun k => k = b
  holds w := MapIs w b l
  stable := fun h ⟨es, clock, hb, hr⟩ => ⟨es, clock, by rw [h b rfl]; exact hb, hr⟩
  lt := fun ⟨_, _, hb, _⟩ e => by subst e; exact lt_of_heap hb
def lkp {α β : Type} [BEq α] : List (α × β) → α → Option β
  | [], _ => none
  | (k, v) :: r, s => match s == k with
    | true => some v
    | false => lkp r s
def upk {α β : Type} [BEq α] : List (α × β) → α → β → List (α × β)
  | [], s, v => [(s, v)]
  | (k, u) :: r, s, v => match s == k with
    | true => (s, v) :: r
    | false => (k, u) :: upk r s v
def ixk {α β : Type} [BEq α] : List (α × β) → α → Option (Nat × β)
  | [], _ => none
  | (k, v) :: r, s => match s == k with
    | true => some (0, v)
    | false => (ixk r s).map (fun p => (p.1 + 1, p.2))
theorem ixk_lkp {α β : Type} [BEq α] (l : List (α × β)) (s : α) : (ixk l s).map (·.2) = lkp l s := by
  induction l with
  | nil => rfl
  | cons x r ih =>
    obtain ⟨k, v⟩ := x
    unfold ixk lkp
    cases s == k with
    | true => rfl
    | false => simp only [Option.map_map]; rw [← ih]; rfl
structure KLaw (P : Program) (k : TypeId) (kd : TypeDesc) {α : Type} [BEq α] (inj : α → Value) : Prop where
  und : P.underlying k = some kd
  isk : ∀ a, MapKept.IsKey kd (inj a)
  same : ∀ a b, Instr.sameNow kd (inj a) (inj b) = some (a == b)
  eqv : ∀ a b : α, (a == b) = true → a = b
theorem strLaw {P : Program} {k : TypeId} (h : P.underlying k = some .string) : KLaw P k .string Value.string :=
  ⟨h, fun _ => trivial, fun _ _ => rfl, fun a b e => by simpa [MapKept.bytes_beq] using e⟩
theorem intLaw {P : Program} {k : TypeId} (h : P.underlying k = some (.int .i64)) : KLaw P k (.int .i64) (Value.int .i64) :=
  ⟨h, fun _ => rfl, fun a b => by simp [Instr.sameNow], fun _ _ e => beq_iff_eq.1 e⟩
theorem KLaw.chk {P : Program} {k : TypeId} {kd : TypeDesc} {α : Type} [BEq α] {inj : α → Value} (KL : KLaw P k kd inj) (em : Bool) (a : α) (w : World) : (Instr.checkKey em 10000 k (inj a)).run P w = .ok () w :=
  MapKept.run_checkKey KL.und (KL.isk a) em 9999
def inK {α : Type} (inj : α → Value) (l : List (α × Value)) : List (Value × Value) := l.map (fun p => (inj p.1, p.2))
section
variable {P : Program} {w : World} {kt e t : TypeId} {kd : TypeDesc} {α : Type} [BEq α] {inj : α → Value}
theorem findNow_ixk (KL : KLaw P kt kd inj) (s : α) : ∀ (es : List MapEntry) (l : List (α × Value)) (i : Nat), es.map (fun e => (e.key, e.val)) = inK inj l →
    Instr.findNow kd (inj s) es i = some ((ixk l s).map (fun p => (i + p.1, p.2)))
  | [], l, i, h => by
    cases l with
    | nil => rfl
    | cons x r => simp [inK] at h
  | x :: es, l, i, h => by
    cases l with
    | nil => simp [inK] at h
    | cons y r =>
      obtain ⟨k0, v0⟩ := y
      simp only [inK, List.map_cons, List.cons.injEq, Prod.mk.injEq] at h
      obtain ⟨⟨h1, h2⟩, h3⟩ := h
      unfold Instr.findNow ixk
      rw [h1, KL.same s k0, h2]
      cases s == k0 with
      | true => rfl
      | false =>
        simp only []
        rw [findNow_ixk KL s es r (i + 1) h3]
        cases ixk r s with
        | none => rfl
        | some p => simp only [Option.map_some]; congr 2; rw [Nat.add_right_comm, Nat.add_assoc]
theorem run_find (KL : KLaw P kt kd inj) (s : α) {es : List MapEntry} {l : List (α × Value)} (h : es.map (fun e => (e.key, e.val)) = inK inj l) : (Instr.findKey kt (inj s) es).run P w = .ok (ixk l s) w := by
  unfold Instr.findKey
  rw [Sem.run_bind, run_underlying KL.und]
  simp only [Result.andThen_ok, findNow_ixk KL s es l 0 h]
  cases ixk l s <;> simp
def lkV (ok : Bool) (o : Option Value) (z : Value) : Value := match ok with
  | true => .tuple #[o.getD z, .bool o.isSome]
  | false => o.getD z
theorem run_getMap {b : Nat} {es : Array MapEntry} {clock : Nat} (hb : w.heap[b]? = some (.map es clock)) : (getObj b).run P w = .ok (.map es clock) w := MapKept.run_getObj_map hb
theorem run_look (KL : KLaw P kt kd inj) (ht : P.underlying t = some (.map kt e)) {z : Value} (hz : (P.info? e).map (·.zero) = some (some z)) (s : α) {b : Nat} {l : List (α × Value)} (hm : MapIs w b (inK inj l)) (ok : Bool) :
    (Instr.lookup t (.map (some b)) (inj s) ok).run P w = .ok (lkV ok (lkp l s) z) w := by
  obtain ⟨es, clock, hb, hl, _⟩ := hm
  have hzv : (zeroValue e).run P w = .ok z w := by
    cases hi : P.info? e with
    | none => simp [hi] at hz
    | some inf => simp [hi] at hz; simp [zeroValue, typeInfo, hi, hz]
  unfold Instr.lookup
  rw [Sem.run_bind, run_underlying ht]
  simp only [Result.andThen_ok, Sem.run_bind, run_getMap hb, Sem.run_pure, KL.chk, run_find KL s hl]
  rw [← ixk_lkp]
  cases ixk l s with
  | none => cases ok <;> simp [hzv, lkV]
  | some p => cases ok <;> simp [lkV]
theorem inK_upk (KL : KLaw P kt kd inj) (s : α) (v : Value) : ∀ (es : List MapEntry) (l : List (α × Value)) {i : Nat} {u : Value}, es.map (fun e => (e.key, e.val)) = inK inj l → ixk l s = some (i, u) →
    (es[i]?).map (·.key) = some (inj s) ∧ (es.modify i (fun e => { e with key := inj s, val := v })).map (fun e => (e.key, e.val)) = inK inj (upk l s v)
  | [], l, i, u, h, hi => by
    cases l with
    | nil => simp [ixk] at hi
    | cons x r => simp [inK] at h
  | x :: es, l, i, u, h, hi => by
    cases l with
    | nil => simp [inK] at h
    | cons y r =>
      obtain ⟨k0, v0⟩ := y
      simp only [inK, List.map_cons, List.cons.injEq, Prod.mk.injEq] at h
      obtain ⟨⟨h1, h2⟩, h3⟩ := h
      unfold ixk at hi
      unfold upk
      cases hs : s == k0 with
      | true =>
        rw [hs] at hi
        simp only [Option.some.injEq, Prod.mk.injEq] at hi
        obtain ⟨rfl, rfl⟩ := hi
        refine ⟨by simp [h1, KL.eqv s k0 hs], ?_⟩
        simp [inK, h3]
      | false =>
        rw [hs] at hi
        simp only [Option.map_eq_some_iff, Prod.mk.injEq] at hi
        obtain ⟨p, hp, rfl, rfl⟩ := hi
        obtain ⟨h4, h5⟩ := inK_upk KL s v es r h3 hp
        refine ⟨by simpa using h4, ?_⟩
        simp only [List.modify_succ_cons, List.map_cons, inK, h1, h2]
        congr 1
theorem upk_none (s : α) (v : Value) : ∀ (l : List (α × Value)), ixk l s = none → upk l s v = l ++ [(s, v)]
  | [], _ => rfl
  | (k0, v0) :: r, h => by
    unfold ixk at h
    unfold upk
    cases hs : s == k0 with
    | true => rw [hs] at h; simp at h
    | false =>
      rw [hs] at h
      simp only [Option.map_eq_none_iff] at h
      rw [upk_none s v r h]
      rfl
theorem Mem.setMap {b : Nat} {l l' : List (Value × Value)} {o : Obj} (_h : (Res.map b l).holds w) (h' : MapIs { w with heap := w.heap.setIfInBounds b o } b l') :
    Mem (Res.map b l).fp w { w with heap := w.heap.setIfInBounds b o } [.map b l'] := by
  refine ⟨rfl, rfl, rfl, by simp, fun k hk hs => ?_, ?_, List.pairwise_singleton _ _⟩
  · have : k ≠ b := fun e => hs e
    show (w.heap.setIfInBounds b o)[k]? = _
    rw [Array.getElem?_setIfInBounds_ne (fun e => this e.symm)]
  · simp only [List.mem_singleton]
    rintro _ rfl
    exact ⟨h', fun g hg => .inl hg⟩
theorem run_mapUp (KL : KLaw P kt kd inj) (ht : P.underlying t = some (.map kt e)) (s : α) (v : Value) {b : Nat} {l : List (α × Value)} (hm : MapIs w b (inK inj l)) :
    ∃ w', (Instr.mapUpdate t (.map (some b)) (inj s) v).run P w = .ok () w' ∧ Mem (Res.map b (inK inj l)).fp w w' [.map b (inK inj (upk l s v))] := by
  obtain ⟨es, clock, hb, hl, hlt, hnd⟩ := hm
  have hbl : b < w.heap.size := lt_of_heap hb
  have hset : ∀ o : Obj, (setObj b o).run P w = .ok () { w with heap := w.heap.setIfInBounds b o } := fun o => by
    simp only [setObj, Sem.run, hb]
  have hget : ∀ o : Obj, ({ w with heap := w.heap.setIfInBounds b o } : World).heap[b]? = some o := fun o => by
    show (w.heap.setIfInBounds b o)[b]? = _
    rw [Array.getElem?_setIfInBounds_self_of_lt hbl]
  cases hi : ixk l s with
  | none =>
    refine ⟨{ w with heap := w.heap.setIfInBounds b (.map (es.push { key := inj s, val := v, born := clock }) (clock + 1)) }, ?_, Mem.setMap ⟨es, clock, hb, hl, hlt, hnd⟩ ?_⟩
    · unfold Instr.mapUpdate
      rw [Sem.run_bind, run_underlying ht]
      simp only [Result.andThen_ok, Sem.run_bind, run_getMap hb, KL.chk, run_find KL s hl, hi, hset]
    · refine ⟨_, _, hget _, ?_, ?_, ?_⟩
      · rw [upk_none s v l hi]
        simp [inK] at hl ⊢
        exact hl
      · intro x hx
        simp only [Array.toList_push, List.mem_append, List.mem_singleton] at hx
        rcases hx with hx | rfl
        · have := hlt x hx; omega
        · exact Nat.lt_succ_self _
      · simp only [Array.toList_push, List.map_append, List.map_cons, List.map_nil]
        rw [List.nodup_append]
        refine ⟨hnd, by simp, fun a ha c hc e => ?_⟩
        simp only [List.mem_singleton] at hc
        subst hc
        obtain ⟨x, hx, rfl⟩ := List.mem_map.1 ha
        have := hlt x hx
        omega
  | some p =>
    obtain ⟨i, u⟩ := p
    obtain ⟨h4, h5⟩ := inK_upk KL s v es.toList l hl hi
    have hkey : (es[i]?).map (·.key) = some (inj s) := by simpa using h4
    have hst : (Instr.keyThatStays (((es[i]?).map (·.key)).getD (inj s)) (inj s)).run P w = .ok (inj s) w := by
      rw [hkey]
      exact MapKept.run_keyThatStays (KL.isk s)
    refine ⟨{ w with heap := w.heap.setIfInBounds b (.map (es.modify i (fun e => { e with key := inj s, val := v })) clock) }, ?_, Mem.setMap ⟨es, clock, hb, hl, hlt, hnd⟩ ?_⟩
    · unfold Instr.mapUpdate
      rw [Sem.run_bind, run_underlying ht]
      simp only [Result.andThen_ok, Sem.run_bind, run_getMap hb, KL.chk, run_find KL s hl, hi, hst, hset]
    · have hborn : (es.toList.modify i (fun e => { e with key := inj s, val := v })).map (·.born) = es.toList.map (·.born) := by
        apply List.ext_getElem?
        intro j
        simp only [List.getElem?_map, List.getElem?_modify]
        by_cases e : i = j
        · subst e; cases es.toList[i]? <;> simp
        · simp [e]
      refine ⟨_, _, hget _, ?_, ?_, ?_⟩
      · rw [Array.toList_modify]; exact h5
      · intro x hx
        rw [Array.toList_modify] at hx
        have : x.born ∈ es.toList.map (·.born) := by rw [← hborn]; exact List.mem_map.2 ⟨x, hx, rfl⟩
        obtain ⟨y, hy, hyx⟩ := List.mem_map.1 this
        rw [← hyx]
        exact hlt y hy
      · rw [Array.toList_modify, hborn]; exact hnd
end
def lkE (c : Code) (N : FN) (env : Env) (k : Nat) : Option (Option Nat × TypeId × Nat × Value × Bool) := match coreAt c k with
  | some (d, .lookup t x y ok, _, g) => match guardE c g env, okd d N, ev env x, ev env y with
    | some true, true, some (.map (some b)), some s => some (d, t, b, s, ok)
    | _, _, _, _ => none
  | _ => none
theorem lk_spec {c : Code} {N : FN} {env : Env} {k : Nat} {d : Option Nat} {t : TypeId} {b : Nat} {s : Value} {ok : Bool} (h : lkE c N env k = some (d, t, b, s, ok)) :
    ∃ x y ty g, coreAt c k = some (d, .lookup t x y ok, ty, g) ∧ guardE c g env = some true ∧ okd d N = true ∧ ev env x = some (.map (some b)) ∧ ev env y = some s := by
  unfold lkE at h
  split at h
  · rename_i h0
    split at h
    · rename_i h1 h2 h3 h4
      simp only [Option.some.injEq, Prod.mk.injEq] at h
      obtain ⟨rfl, rfl, rfl, rfl, rfl⟩ := h
      exact ⟨_, _, _, _, h0, h1, h2, h3, h4⟩
    · cases h
  · cases h
def muE (c : Code) (N : FN) (env : Env) (k : Nat) : Option (Option Nat × TypeId × Nat × Value × Value) := match coreAt c k with
  | some (d, .mapUpdate t x y u, _, g) | some (d, .insert t x y u, _, g) => match guardE c g env, okd d N, ev env x, ev env y, ev env u with
    | some true, true, some (.map (some b)), some s, some v => some (d, t, b, s, v)
    | _, _, _, _, _ => none
  | _ => none
section
variable {P : Program} {c : Code} {K : Act → World → Prop} {Q : Exit → Act → World → Prop} {w w0 : World} {S : Nat → Prop} {L : List Res} {k : Nat} {N : FN} {env : Env} {kt e t : TypeId} {kd : TypeDesc} {α : Type} [BEq α] {inj : α → Value}
theorem From_look {a : Act} {d : Option Nat} (KL : KLaw P kt kd inj) (ht : P.underlying t = some (.map kt e)) {z : Value} (hz : (P.info? e).map (·.zero) = some (some z)) (s : α) {b : Nat} {l : List (α × Value)} (hm : MapIs w b (inK inj l)) {ok : Bool}
    (hF : Fr a N env) (hk : lkE c N env k = some (d, t, b, inj s, ok)) (h : ∀ a', a' = a.put d (lkV ok (lkp l s) z) → Fr a' N (putE env d (lkV ok (lkp l s) z)) → From P c K Q (k + 1) a' w) : From P c K Q k a w := by
  obtain ⟨x, y, ty, g, h0, h1, h2, h3, h4⟩ := lk_spec hk
  refine From_same h0 hF h1 h2 rfl (fun o ho => ?_) h
  unfold execOp
  rw [ho]
  simp only [hF.ev h3, hF.ev h4, Sem.run_bind, run_look KL ht hz s hm, Result.andThen_ok]
  rfl
theorem zlk (KL : KLaw P kt kd inj) (s : α) (z : Value) {b : Nat} {l : List (α × Value)} (hm : MapIs w b (inK inj l)) (ok : Bool) (h : ∀ a, Fr a N (putE env (dstAt c k) (lkV ok (lkp l s) z)) → From P c K Q (k + 1) a w)
    (ht : P.underlying t = some (.map kt e)) (hz : (P.info? e).map (·.zero) = some (some z) := by kernel_rfl) (hk : lkE c N env k = some (dstAt c k, t, b, inj s, ok) := by kernel_rfl) : ∀ a, Fr a N env → From P c K Q k a w :=
  fun _ hF => From_look KL ht hz s hm hF hk (fun a' _ => h a')
theorem zmu (KL : KLaw P kt kd inj) (hM : Mem S w0 w L) (i : Nat) (s : α) (v : Value) {b : Nat} {l : List (α × Value)} (hi : L[i]? = some (.map b (inK inj l))) (ht : P.underlying t = some (.map kt e))
    (h : ∀ w', Mem S w0 w' (L.set i (.map b (inK inj (upk l s v)))) → ∀ a, Fr a N (putE env (dstAt c k) undef) → From P c K Q (k + 1) a w')
    (hk : muE c N env k = some (dstAt c k, t, b, inj s, v) := by kernel_rfl) : ∀ a, Fr a N env → From P c K Q k a w := fun a hF => by
  obtain ⟨w', hr, hm⟩ := run_mapUp KL ht s v (hM.get i hi)
  have hM' : Mem S w0 w' (L.set i (.map b (inK inj (upk l s v)))) := by simpa using hM.mod i hi hm
  unfold muE at hk
  split at hk
  · rename_i d0 t0 x y u ty g h0
    split at hk
    · rename_i h1 h2 h3 h4 h5
      simp only [Option.some.injEq, Prod.mk.injEq] at hk
      obtain ⟨rfl, rfl, rfl, rfl, rfl⟩ := hk
      refine From_unit h0 hF h1 (w' := w') (fun o ho => ?_) (h w' hM' _ (hF.put h2 _))
      unfold execOp
      rw [ho]
      simp only [hF.ev h3, hF.ev h4, hF.ev h5, Sem.run_bind, hr, Result.andThen_ok]
      rfl
    · cases hk
  · rename_i d0 t0 x y u ty g h0
    split at hk
    · rename_i h1 h2 h3 h4 h5
      simp only [Option.some.injEq, Prod.mk.injEq] at hk
      obtain ⟨rfl, rfl, rfl, rfl, rfl⟩ := hk
      refine From_unit h0 hF h1 (w' := w') (fun o ho => ?_) (h w' hM' _ (hF.put h2 _))
      unfold execOp
      rw [ho]
      simp only [hF.ev h3, hF.ev h4, hF.ev h5, Sem.run_bind, hr, Result.andThen_ok]
      rfl
    · cases hk
  · cases hk
def mkE (c : Code) (N : FN) (env : Env) (k : Nat) : Option (Option Nat) := match coreAt c k with
  | some (d, .makeMap _ none, _, g) => match guardE c g env, okd d N with
    | some true, true => some d
    | _, _ => none
  | _ => none
theorem zmm (hM : Mem S w0 w L) (h : ∀ b w', w0.heap.size ≤ b → Mem S w0 w' (L ++ [.map b []]) → ∀ a, Fr a N (putE env (dstAt c k) (.map (some b))) → From P c K Q (k + 1) a w')
    (hk : mkE c N env k = some (dstAt c k) := by kernel_rfl) : ∀ a, Fr a N env → From P c K Q k a w := fun a hF => by
  unfold mkE at hk
  split at hk
  · rename_i d0 t0 ty g h0
    split at hk
    · rename_i h1 h2
      simp only [Option.some.injEq] at hk
      subst hk
      have hm : Mem noS w (w.alloc (.map #[] 0)) [.map w.heap.size []] := by
        refine ⟨rfl, rfl, rfl, by show w.heap.size ≤ (w.heap.push _).size; simp, fun k hk _ => ?_, ?_, List.pairwise_singleton _ _⟩
        · show (w.heap.push _)[k]? = _
          rw [Array.getElem?_push_lt hk, Array.getElem?_eq_getElem hk]
        · simp only [List.mem_singleton]
          rintro _ rfl
          refine ⟨⟨#[], 0, ?_, rfl, by simp, by simp⟩, fun g hg => .inr (by rw [hg]; exact Nat.le_refl _)⟩
          show (w.heap.push _)[w.heap.size]? = _
          simp
      refine From_val h0 hF h1 (v := .map (some w.heap.size)) (w' := w.alloc (.map #[] 0)) (fun o ho _ => ?_) (h w.heap.size _ hM.size (hM.call hm) _ (hF.put h2 _))
      unfold execOp
      rw [ho]
      simp only [Option.map_none, Instr.makeMap, Sem.run_bind, Sem.run_pure, run_newObj, Result.andThen_ok]
      rfl
    · cases hk
  · cases hk
end
section
variable {P : Program} {c : Code} {Q : Exit → Act → World → Prop} {N : FN} {i : Nat} {env0 : Env} {wr : World} {sp : Nat → Spec} {kt e t : TypeId} {kd : TypeDesc} {α : Type} [BEq α] {inj : α → Value}
theorem dM (KL : KLaw P kt kd inj) (ht : P.underlying t = some (.map kt e)) (s : α) (z : Value) {b : Nat} {l : List (α × Value)} (hm : ∀ w, Kp wr w → MapIs w b (inK inj l)) (ok : Bool) (hz : (P.info? e).map (·.zero) = some (some z) := by kernel_rfl)
    (hv : sp i = .det (lkV ok (lkp l s) z) := by rfl) (hg : ∀ vs, gtE c i (predE c i sp vs env0) = some true := by intro _; kernel_rfl)
    (hk : ∀ vs, lkE (one c i) N (predE c i sp vs env0) 0 = some (dstAt c i, t, b, inj s, ok) := by intro _; kernel_rfl) (he : coreAt (one c i) 1 = none := by kernel_rfl) : OpOK P c Q N env0 wr sp i := by
  refine op_of hg (fun w vs hK hp a hF => ?_)
  exact From_look KL ht hz s (hm w hK) hF (hk vs) (fun a' ea _ => From_end he ⟨_, ea, Kp.refl w, by rw [hv]; rfl⟩)
end
end Go.Mor
namespace Go.Mor
def bAnd (a b : Int) : Int := IntKind.i64.wrap ((BitVec.ofInt 64 a &&& BitVec.ofInt 64 b).toNat : Int)
def bOr (a b : Int) : Int := IntKind.i64.wrap ((BitVec.ofInt 64 a ||| BitVec.ofInt 64 b).toNat : Int)
def bXor (a b : Int) : Int := IntKind.i64.wrap ((BitVec.ofInt 64 a ^^^ BitVec.ofInt 64 b).toNat : Int)
def shN (b : Int) : Int := IntKind.u64.wrap ((BitVec.ofInt 64 (IntKind.u64.wrap b) &&& BitVec.ofInt 64 63).toNat : Int)
def shlI (a n : Int) : Int := IntKind.i64.wrap (a * 2 ^ min n.toNat 64)
def shrI (a n : Int) : Int := a.fdiv (2 ^ min n.toNat 64)
def quoS (op a b : Int) : Int × Int :=
  if b = 0 then (0, 3) else if b = -1 ∧ op = 4 then (IntKind.i64.wrap (0 - a), 0) else if b = -1 then (0, 0) else if op = 4 then (IntKind.i64.wrap (a.tdiv b), 0) else (a.tmod b, 0)
def binS (op a b : Int) : Int × Int :=
  if op = 1 then (IntKind.i64.wrap (a + b), 0) else if op = 2 then (IntKind.i64.wrap (a - b), 0) else if op = 3 then (IntKind.i64.wrap (a * b), 0) else if op = 4 ∨ op = 5 then quoS op a b
  else if op = 6 then (bAnd a b, 0) else if op = 7 then (bOr a b, 0) else if op = 8 then (bXor a b, 0) else if op = 9 then (shlI a (shN b), 0) else if op = 10 then (shrI a (shN b), 0)
  else if op = 11 then (truthI (decide (a = b)), 0) else if op = 12 then (truthI (a != b), 0) else if op = 13 then (truthI (decide (a < b)), 0) else if op = 14 then (truthI (decide (a ≤ b)), 0)
  else if op = 15 then (truthI (decide (a > b)), 0) else if op = 16 then (truthI (decide (a ≥ b)), 0) else (0, -1)
def unS (op a : Int) : Int × Int :=
  if op = 1 then (IntKind.i64.wrap (0 - a), 0) else if op = 2 then (bXor (-1) a, 0) else if op = 3 then (truthI (decide (a = 0)), 0) else (0, -1)
theorem quo_1 {op a b : Int} (h : b = 0) : quoS op a b = (0, 3) := by unfold quoS; rw [if_pos h]
theorem quo_2 {op a b : Int} (h : b = -1) (h1 : op = 4) : quoS op a b = (IntKind.i64.wrap (0 - a), 0) := by unfold quoS; rw [if_neg (by omega), if_pos ⟨h, h1⟩]
theorem quo_3 {op a b : Int} (h : b = -1) (h1 : op ≠ 4) : quoS op a b = (0, 0) := by unfold quoS; rw [if_neg (by omega), if_neg (fun e => h1 e.2), if_pos h]
theorem quo_4 {op a b : Int} (h : b ≠ 0) (h2 : b ≠ -1) (h1 : op = 4) : quoS op a b = (IntKind.i64.wrap (a.tdiv b), 0) := by unfold quoS; rw [if_neg h, if_neg (fun e => h2 e.1), if_neg h2, if_pos h1]
theorem quo_5 {op a b : Int} (h : b ≠ 0) (h2 : b ≠ -1) (h1 : op ≠ 4) : quoS op a b = (a.tmod b, 0) := by unfold quoS; rw [if_neg h, if_neg (fun e => h2 e.1), if_neg h2, if_neg h1]
theorem bin_out {op a b : Int} (h : ¬ (1 ≤ op ∧ op ≤ 16)) : binS op a b = (0, -1) := by
  unfold binS
  rw [if_neg (by omega), if_neg (by omega), if_neg (by omega), if_neg (by omega), if_neg (by omega), if_neg (by omega), if_neg (by omega), if_neg (by omega), if_neg (by omega), if_neg (by omega), if_neg (by omega), if_neg (by omega), if_neg (by omega), if_neg (by omega), if_neg (by omega)]
theorem bin_45 {op a b : Int} (h : op = 4 ∨ op = 5) : binS op a b = ((quoS op a b).1, (quoS op a b).2) := by
  unfold binS
  rw [if_neg (by omega), if_neg (by omega), if_neg (by omega), if_pos h]
theorem un_no {op a : Int} (h1 : ¬ op = 1) (h2 : ¬ op = 2) (h3 : ¬ op = 3) : unS op a = (0, -1) := by unfold unS; rw [if_neg h1, if_neg h2, if_neg h3]
section
variable {op a b : Int}
theorem bo1 (h : op = 1 := by assumption) : binS op a b = (IntKind.i64.wrap (a + b), 0) := by subst h; rfl
theorem bo2 (h : op = 2 := by assumption) : binS op a b = (IntKind.i64.wrap (a - b), 0) := by subst h; rfl
theorem bo3 (h : op = 3 := by assumption) : binS op a b = (IntKind.i64.wrap (a * b), 0) := by subst h; rfl
theorem bo6 (h : op = 6 := by assumption) : binS op a b = (bAnd a b, 0) := by subst h; rfl
theorem bo7 (h : op = 7 := by assumption) : binS op a b = (bOr a b, 0) := by subst h; rfl
theorem bo8 (h : op = 8 := by assumption) : binS op a b = (bXor a b, 0) := by subst h; rfl
theorem bo9 (h : op = 9 := by assumption) : binS op a b = (shlI a (shN b), 0) := by subst h; rfl
theorem bo10 (h : op = 10 := by assumption) : binS op a b = (shrI a (shN b), 0) := by subst h; rfl
theorem bo11 (h : op = 11 := by assumption) : binS op a b = (truthI (decide (a = b)), 0) := by subst h; rfl
theorem bo12 (h : op = 12 := by assumption) : binS op a b = (truthI (a != b), 0) := by subst h; rfl
theorem bo13 (h : op = 13 := by assumption) : binS op a b = (truthI (decide (a < b)), 0) := by subst h; rfl
theorem bo14 (h : op = 14 := by assumption) : binS op a b = (truthI (decide (a ≤ b)), 0) := by subst h; rfl
theorem bo15 (h : op = 15 := by assumption) : binS op a b = (truthI (decide (a > b)), 0) := by subst h; rfl
theorem bo16 (h : op = 16 := by assumption) : binS op a b = (truthI (decide (a ≥ b)), 0) := by subst h; rfl
theorem uo1 (h : op = 1 := by assumption) : unS op a = (IntKind.i64.wrap (0 - a), 0) := by subst h; rfl
theorem uo2 (h : op = 2 := by assumption) : unS op a = (bXor (-1) a, 0) := by subst h; rfl
theorem uo3 (h : op = 3 := by assumption) : unS op a = (truthI (decide (a = 0)), 0) := by subst h; rfl
end
structure PSt where
  mem : List Int
  next : Int
  pos : Nat
  out : List Int
  steps : Int
  opened : Int
inductive Got (α : Type) where
  | ok (a : α) (s : PSt)
  | stop (k c : Int) (s : PSt)
def Got.bind {α β : Type} (g : Got α) (f : α → PSt → Got β) : Got β := match g with
  | .ok a s => f a s
  | .stop k c s => .stop k c s
structure RFn where
  nm : ByteArray
  wk : Bool
  pa : Int
  va : Int
  A : Option Addr
  c : Nat
  blks : List FBlk
  qA : Option Addr
  qc : Nat
  srcs : List (Option Addr × Nat × List Int)
structure Env0 where
  fns : List RFn
  names : List (ByteArray × Int)
  data : List (ByteArray × Int)
  inp : List Int
  memN : Nat
  fuel : Int
def stepS (E : Env0) (s : PSt) : Got Unit := if s.steps = E.fuel then .stop 0 0 s else .ok () { s with steps := s.steps + 1 }
def atS (n : Int) (s : PSt) : Got Nat := if n < 1 ∨ n ≥ s.next then .stop 5 0 s else .ok n.toNat s
def a0 (l : List Int) : Int := l.getD 0 0
def a1 (l : List Int) : Int := l.getD 1 0
section
variable {E : Env0} {call : Int → List Int → PSt → Got Int} {i : FIns} {l : List Int} {s : PSt}
end
theorem at_no {n : Int} {s : PSt} (h : n < 1 ∨ n ≥ s.next) : atS n s = .stop 5 0 s := by unfold atS; rw [if_pos h]
theorem at_yes {n : Int} {s : PSt} (h : ¬ (n < 1 ∨ n ≥ s.next)) : atS n s = .ok n.toNat s := by unfold atS; rw [if_neg h]
theorem step_no {E : Env0} {s : PSt} (h : s.steps = E.fuel) : stepS E s = .stop 0 0 s := by unfold stepS; rw [if_pos h]
theorem step_yes {E : Env0} {s : PSt} (h : ¬ s.steps = E.fuel) : stepS E s = .ok () { s with steps := s.steps + 1 } := by unfold stepS; rw [if_neg h]
end Go.Mor
namespace Go.Mor
open Go.RowKit
structure MEx where
  op : Int
  n : Int
  nm : ByteArray
  A : Option Addr
  c : Nat
  kids : List MEx
structure MSt where
  op : Int
  n : Int
  eA : Option Addr
  ec : Nat
  exprs : List MEx
  bA : Option Addr
  bc : Nat
  body : List MSt
  lA : Option Addr
  lc : Nat
  els : List MSt
structure TFn where
  nm : ByteArray
  wk : Bool
  pa : Int
  lo : Int
  A : Option Addr
  c : Nat
  body : List MSt
theorem MEx.ind {p : MEx → Prop} (h : ∀ e : MEx, (∀ k, k ∈ e.kids → p k) → p e) : ∀ e, p e
  | ⟨op, n, nm, A, c, kids⟩ => h _ (fun k _ => MEx.ind h k)
theorem MSt.ind {p : MSt → Prop} (h : ∀ e : MSt, (∀ k, k ∈ e.body → p k) → (∀ k, k ∈ e.els → p k) → p e) : ∀ e, p e
  | ⟨op, n, eA, ec, exprs, bA, bc, body, lA, lc, els⟩ => h _ (fun k _ => MSt.ind h k) (fun k _ => MSt.ind h k)
structure EnvT extends Env0 where
  tfs : List TFn
structure Frm where
  loc : List Int
  deep : Int
  back : Int
def kidS (ev : MEx → PSt → Got Int) (l : List MEx) (i : Nat) (s : PSt) : Got Int := match l[i]? with
  | some k => ev k s
  | none => .stop 5 0 s
def kidsS (ev : MEx → PSt → Got Int) : List MEx → PSt → Got (List Int)
  | [], s => .ok [] s
  | k :: r, s => (ev k s).bind fun v s => (kidsS ev r s).bind fun l s => .ok (v :: l) s
def lkS (l : List (ByteArray × Int)) (nm : ByteArray) (s : PSt) : Got Int := match lkp l nm with
  | some n => .ok n s
  | none => .stop 5 0 s
def allocS (E : Env0) (n : Int) (s : PSt) : Got Int := if n < 0 then .stop 5 0 s else if n > (E.memN : Int) - s.next then .stop 3 0 s else .ok s.next { s with next := s.next + n }
def readS (E : Env0) (s : PSt) : Got Int := if s.pos < E.inp.length then .ok (E.inp.getD s.pos 0) { s with pos := s.pos + 1 } else .ok (-1) s
def exprB (E : EnvT) (call : Int → List Int → PSt → Got Int) (ev : MEx → PSt → Got Int) (loc : List Int) (e : MEx) (s : PSt) : Got Int :=
  if e.op = 1 then .ok e.n s
  else if e.op = 2 then .ok (loc.getD e.n.toNat 0) s
  else if e.op = 3 then (kidS ev e.kids 0 s).bind fun a s => (kidS ev e.kids 1 s).bind fun b s => if (binS e.n a b).2 = 0 then .ok (binS e.n a b).1 s else .stop 2 (binS e.n a b).2 s
  else if e.op = 4 then (kidS ev e.kids 0 s).bind fun a s => .ok (unS e.n a).1 s
  else if e.op = 5 then (kidS ev e.kids 0 s).bind fun a s => (atS (IntKind.i64.wrap (a + e.n)) s).bind fun k s => .ok (s.mem.getD k 0) s
  else if e.op = 6 then (kidsS ev e.kids s).bind fun l s => (lkS E.names e.nm s).bind fun n s => call n l s
  else if e.op = 7 then (kidsS ev e.kids s).bind fun l s => call (a0 l) l.tail s
  else if e.op = 8 then lkS E.data e.nm s
  else if e.op = 9 then lkS E.names e.nm s
  else if e.op = 10 then (kidS ev e.kids 0 s).bind fun a s => allocS E.toEnv0 a s
  else if e.op = 11 then readS E.toEnv0 s
  else if e.op = 12 then (kidS ev e.kids 0 s).bind fun a s => if a ≠ 0 then kidS ev e.kids 1 s else kidS ev e.kids 2 s
  else (kidS ev e.kids 0 s).bind fun a s => if a = 0 then .stop 2 e.n s else kidS ev e.kids 1 s
def exprF (E : EnvT) (call : Int → List Int → PSt → Got Int) (ev : MEx → PSt → Got Int) (loc : List Int) (e : MEx) (s : PSt) : Got Int := (stepS E.toEnv0 s).bind fun _ s => exprB E call ev loc e s
def stmS (st : MSt → Frm → PSt → Got (Int × Frm)) : List MSt → Frm → PSt → Got (Int × Frm)
  | [], f, s => .ok (0, f) s
  | x :: r, f, s => (st x f s).bind fun p s => if p.1 ≠ 0 then .ok p s else stmS st r p.2 s
def loopF (E : Env0) (stm : Frm → PSt → Got (Int × Frm)) : Nat → Frm → PSt → Got (Int × Frm)
  | 0, _, s => .stop 5 0 s
  | g + 1, f, s => (stepS E s).bind fun _ s => (stm f s).bind fun p s =>
    if p.1 = 3 then .ok (3, p.2) s else if p.1 = 0 then loopF E stm g p.2 s else if p.2.deep > 0 then .ok (p.1, { p.2 with deep := IntKind.i64.wrap (p.2.deep - 1) }) s
    else if p.1 = 1 then .ok (0, p.2) s else loopF E stm g p.2 s
def writeS (v : Int) (s : PSt) : PSt := if s.out.length < 4096 then { s with out := s.out ++ [IntKind.u8.wrap v] } else s
def statB (E : EnvT) (g : Nat) (ex : List Int → MEx → PSt → Got Int) (st : MSt → Frm → PSt → Got (Int × Frm)) (x : MSt) (f : Frm) (s : PSt) : Got (Int × Frm) :=
  if x.op = 1 then (kidS (ex f.loc) x.exprs 0 s).bind fun v s => .ok (0, { f with loc := f.loc.set x.n.toNat v }) s
  else if x.op = 2 then (kidS (ex f.loc) x.exprs 0 s).bind fun a s => (kidS (ex f.loc) x.exprs 1 s).bind fun v s => (atS (IntKind.i64.wrap (a + x.n)) s).bind fun k s => .ok (0, f) { s with mem := s.mem.set k v }
  else if x.op = 3 then (kidS (ex f.loc) x.exprs 0 s).bind fun _ s => .ok (0, f) s
  else if x.op = 4 then (kidS (ex f.loc) x.exprs 0 s).bind fun v s => .ok (0, f) (writeS v s)
  else if x.op = 5 then (kidS (ex f.loc) x.exprs 0 s).bind fun a s => if a ≠ 0 then stmS st x.body f s else stmS st x.els f s
  else if x.op = 6 then loopF E.toEnv0 (stmS st x.body) g f s
  else if x.op = 7 then .ok (1, { f with deep := x.n }) s
  else if x.op = 8 then .ok (2, { f with deep := x.n }) s
  else if x.op = 9 then if x.exprs.length > 0 then (kidS (ex f.loc) x.exprs 0 s).bind fun v s => .ok (3, { f with back := v }) s else .ok (3, f) s
  else if x.op = 10 then .stop 2 x.n s
  else .ok (0, f) s
def statF (E : EnvT) (g : Nat) (ex : List Int → MEx → PSt → Got Int) (st : MSt → Frm → PSt → Got (Int × Frm)) (x : MSt) (f : Frm) (s : PSt) : Got (Int × Frm) := (stepS E.toEnv0 s).bind fun _ s => statB E g ex st x f s
def enterT (E : EnvT) (st : MSt → Frm → PSt → Got (Int × Frm)) (n : Int) (l : List Int) (s : PSt) : Got Int :=
  if n < 1 ∨ n ≥ (E.tfs.length : Int) + 1 then .stop 5 0 s else match E.tfs[(n - 1).toNat]? with
  | none => .stop 5 0 s
  | some f => if (l.length : Int) ≠ f.pa then .stop 5 0 s else if s.opened = 1200 then .stop 4 0 s
    else (stmS st f.body ⟨l ++ List.replicate (f.lo.toNat - l.length) 0, 0, 0⟩ { s with opened := s.opened + 1 }).bind fun p s => .ok p.2.back { s with opened := s.opened - 1 }
def evG (E : EnvT) : Nat → (List Int → MEx → PSt → Got Int) × (MSt → Frm → PSt → Got (Int × Frm))
  | 0 => (fun _ _ s => .stop 5 0 s, fun _ _ s => .stop 5 0 s)
  | g + 1 => (fun loc => exprF E (enterT E (evG E g).2) ((evG E g).1 loc) loc, statF E g (evG E g).1 (evG E g).2)
abbrev exS (E : EnvT) (g : Nat) : List Int → MEx → PSt → Got Int := (evG E g).1
abbrev stS (E : EnvT) (g : Nat) : MSt → Frm → PSt → Got (Int × Frm) := (evG E g).2
def callT (E : EnvT) (g : Nat) : Int → List Int → PSt → Got Int := enterT E (stS E g)
def playT (E : EnvT) (g : Nat) : List ByteArray → PSt → Got Unit
  | [], s => .ok () s
  | b :: r, s => (lkS E.names b s).bind fun n s => (callT E g n [] s).bind fun _ s => playT E g r s
end Go.Mor
namespace Go.Mor
open Go.RowKit
section
variable {α β : Type}
theorem gbind_ok {g : Got α} {f : α → PSt → Got β} {x : α} {s : PSt} (h : g = .ok x s) : g.bind f = f x s := by rw [h]; rfl
theorem gbind_stop {g : Got α} {f : α → PSt → Got β} {k c : Int} {s : PSt} (h : g = .stop k c s) : g.bind f = .stop k c s := by rw [h]; rfl
end
section
variable {E : EnvT} {call : Int → List Int → PSt → Got Int} {ev : MEx → PSt → Got Int} {loc : List Int} {e : MEx} {s : PSt}
theorem ex_1 (h : e.op = 1) : exprB E call ev loc e s = .ok e.n s := by unfold exprB; rw [h]; rfl
theorem ex_2 (h : e.op = 2) : exprB E call ev loc e s = .ok (loc.getD e.n.toNat 0) s := by unfold exprB; rw [h]; rfl
theorem ex_3 (h : e.op = 3) : exprB E call ev loc e s = (kidS ev e.kids 0 s).bind fun a s => (kidS ev e.kids 1 s).bind fun b s => if (binS e.n a b).2 = 0 then .ok (binS e.n a b).1 s else .stop 2 (binS e.n a b).2 s := by unfold exprB; rw [h]; rfl
theorem ex_4 (h : e.op = 4) : exprB E call ev loc e s = (kidS ev e.kids 0 s).bind fun a s => .ok (unS e.n a).1 s := by unfold exprB; rw [h]; rfl
theorem ex_5 (h : e.op = 5) : exprB E call ev loc e s = (kidS ev e.kids 0 s).bind fun a s => (atS (IntKind.i64.wrap (a + e.n)) s).bind fun k s => .ok (s.mem.getD k 0) s := by unfold exprB; rw [h]; rfl
theorem ex_6 (h : e.op = 6) : exprB E call ev loc e s = (kidsS ev e.kids s).bind fun l s => (lkS E.names e.nm s).bind fun n s => call n l s := by unfold exprB; rw [h]; rfl
theorem ex_7 (h : e.op = 7) : exprB E call ev loc e s = (kidsS ev e.kids s).bind fun l s => call (a0 l) l.tail s := by unfold exprB; rw [h]; rfl
theorem ex_8 (h : e.op = 8) : exprB E call ev loc e s = lkS E.data e.nm s := by unfold exprB; rw [h]; rfl
theorem ex_9 (h : e.op = 9) : exprB E call ev loc e s = lkS E.names e.nm s := by unfold exprB; rw [h]; rfl
theorem ex_10 (h : e.op = 10) : exprB E call ev loc e s = (kidS ev e.kids 0 s).bind fun a s => allocS E.toEnv0 a s := by unfold exprB; rw [h]; rfl
theorem ex_11 (h : e.op = 11) : exprB E call ev loc e s = readS E.toEnv0 s := by unfold exprB; rw [h]; rfl
theorem ex_12 (h : e.op = 12) : exprB E call ev loc e s = (kidS ev e.kids 0 s).bind fun a s => if a ≠ 0 then kidS ev e.kids 1 s else kidS ev e.kids 2 s := by unfold exprB; rw [h]; rfl
theorem ex_13 (h : e.op = 13) : exprB E call ev loc e s = (kidS ev e.kids 0 s).bind fun a s => if a = 0 then .stop 2 e.n s else kidS ev e.kids 1 s := by unfold exprB; rw [h]; rfl
theorem kid_at {l : List MEx} {i : Nat} {k : MEx} (h : l[i]? = some k) : kidS ev l i s = ev k s := by unfold kidS; rw [h]
theorem lk_yes {l : List (ByteArray × Int)} {nm : ByteArray} {n : Int} (h : lkp l nm = some n) : lkS l nm s = .ok n s := by unfold lkS; rw [h]
theorem lk_no {l : List (ByteArray × Int)} {nm : ByteArray} (h : lkp l nm = none) : lkS l nm s = .stop 5 0 s := by unfold lkS; rw [h]
end
section
variable {E : EnvT} {g : Nat} {ex : List Int → MEx → PSt → Got Int} {st : MSt → Frm → PSt → Got (Int × Frm)} {x : MSt} {f : Frm} {s : PSt}
theorem sm_1 (h : x.op = 1) : statB E g ex st x f s = (kidS (ex f.loc) x.exprs 0 s).bind fun v s => .ok (0, { f with loc := f.loc.set x.n.toNat v }) s := by unfold statB; rw [h]; rfl
theorem sm_2 (h : x.op = 2) : statB E g ex st x f s = (kidS (ex f.loc) x.exprs 0 s).bind fun a s => (kidS (ex f.loc) x.exprs 1 s).bind fun v s => (atS (IntKind.i64.wrap (a + x.n)) s).bind fun k s => .ok (0, f) { s with mem := s.mem.set k v } := by unfold statB; rw [h]; rfl
theorem sm_3 (h : x.op = 3) : statB E g ex st x f s = (kidS (ex f.loc) x.exprs 0 s).bind fun _ s => .ok (0, f) s := by unfold statB; rw [h]; rfl
theorem sm_4 (h : x.op = 4) : statB E g ex st x f s = (kidS (ex f.loc) x.exprs 0 s).bind fun v s => .ok (0, f) (writeS v s) := by unfold statB; rw [h]; rfl
theorem sm_5 (h : x.op = 5) : statB E g ex st x f s = (kidS (ex f.loc) x.exprs 0 s).bind fun a s => if a ≠ 0 then stmS st x.body f s else stmS st x.els f s := by unfold statB; rw [h]; rfl
theorem sm_6 (h : x.op = 6) : statB E g ex st x f s = loopF E.toEnv0 (stmS st x.body) g f s := by unfold statB; rw [h]; rfl
theorem sm_7 (h : x.op = 7) : statB E g ex st x f s = .ok (1, { f with deep := x.n }) s := by unfold statB; rw [h]; rfl
theorem sm_8 (h : x.op = 8) : statB E g ex st x f s = .ok (2, { f with deep := x.n }) s := by unfold statB; rw [h]; rfl
theorem sm_9 (h : x.op = 9) : statB E g ex st x f s = if x.exprs.length > 0 then (kidS (ex f.loc) x.exprs 0 s).bind fun v s => .ok (3, { f with back := v }) s else .ok (3, f) s := by unfold statB; rw [h]; rfl
theorem sm_10 (h : x.op = 10) : statB E g ex st x f s = .stop 2 x.n s := by unfold statB; rw [h]; rfl
theorem stm_at {l : List MSt} {j : Nat} (h : l[j]? = some x) : stmS st (l.drop j) f s = (st x f s).bind fun p s => if p.1 ≠ 0 then .ok p s else stmS st (l.drop (j + 1)) p.2 s := by
  obtain ⟨hlt, he⟩ := List.getElem?_eq_some_iff.1 h
  rw [List.drop_eq_getElem_cons hlt, he]
  rfl
theorem kids_at {ev : MEx → PSt → Got Int} {l : List MEx} {j : Nat} {k : MEx} (h : l[j]? = some k) : kidsS ev (l.drop j) s = (ev k s).bind fun v s => (kidsS ev (l.drop (j + 1)) s).bind fun m s => .ok (v :: m) s := by
  obtain ⟨hlt, he⟩ := List.getElem?_eq_some_iff.1 h
  rw [List.drop_eq_getElem_cons hlt, he]
  rfl
theorem loop_at {E : Env0} {stm : Frm → PSt → Got (Int × Frm)} : loopF E stm (g + 1) f s = (stepS E s).bind fun _ s => (stm f s).bind fun p s =>
    if p.1 = 3 then .ok (3, p.2) s else if p.1 = 0 then loopF E stm g p.2 s else if p.2.deep > 0 then .ok (p.1, { p.2 with deep := IntKind.i64.wrap (p.2.deep - 1) }) s
    else if p.1 = 1 then .ok (0, p.2) s else loopF E stm g p.2 s := rfl
end
section
variable {E : EnvT} {st : MSt → Frm → PSt → Got (Int × Frm)} {n : Int} {l : List Int} {s : PSt} {f : TFn}
theorem enterT_rng (h : n < 1 ∨ n ≥ (E.tfs.length : Int) + 1) : enterT E st n l s = .stop 5 0 s := by unfold enterT; rw [if_pos h]
theorem enterT_at (h : ¬ (n < 1 ∨ n ≥ (E.tfs.length : Int) + 1)) (hf : E.tfs[(n - 1).toNat]? = some f) : enterT E st n l s = if (l.length : Int) ≠ f.pa then .stop 5 0 s else if s.opened = 1200 then .stop 4 0 s
    else (stmS st f.body ⟨l ++ List.replicate (f.lo.toNat - l.length) 0, 0, 0⟩ { s with opened := s.opened + 1 }).bind fun p s => .ok p.2.back { s with opened := s.opened - 1 } := by unfold enterT; rw [if_neg h, hf]
end
def Stay (s s' : PSt) : Prop := s.steps ≤ s'.steps ∧ s'.opened = s.opened
theorem Stay.refl (s : PSt) : Stay s s := ⟨Int.le_refl _, rfl⟩
theorem Stay.trans {a b c : PSt} (h : Stay a b) (h2 : Stay b c) : Stay a c := ⟨Int.le_trans h.1 h2.1, h2.2.trans h.2⟩
def KeepG {α : Type} (s : PSt) (g : Got α) : Prop := ∀ x s', g = .ok x s' → Stay s s'
section
variable {α β : Type} {s s2 : PSt}
theorem KeepG.bind {g : Got α} {f : α → PSt → Got β} (h : KeepG s g) (hf : ∀ x s2, g = .ok x s2 → KeepG s2 (f x s2)) : KeepG s (g.bind f) := by
  intro x s' he
  cases hg : g with
  | ok y s2 =>
    rw [gbind_ok hg] at he
    exact (h y s2 hg).trans (hf y s2 hg x s' he)
  | stop k c s2 => rw [gbind_stop hg] at he; cases he
theorem KeepG.ok {x : α} (h : Stay s s2) : KeepG s (.ok x s2) := fun y s' he => by injection he with _ he; rw [← he]; exact h
theorem KeepG.stop {k c : Int} : KeepG s (.stop k c s2 : Got α) := fun y s' he => by cases he
theorem KeepG.ite {p : Prop} [Decidable p] {a b : Got α} (ha : KeepG s a) (hb : KeepG s b) : KeepG s (if p then a else b) := by
  split
  · exact ha
  · exact hb
theorem step_stay {E : Env0} : KeepG s (stepS E s) := by
  unfold stepS
  exact .ite .stop (.ok ⟨by show s.steps ≤ s.steps + 1; omega, rfl⟩)
theorem at_stay {n : Int} : KeepG s (atS n s) := by unfold atS; exact .ite .stop (.ok (.refl s))
theorem lk_stay {l : List (ByteArray × Int)} {nm : ByteArray} : KeepG s (lkS l nm s) := by
  unfold lkS
  split
  · exact .ok (.refl s)
  · exact .stop
theorem alloc_stay {E : Env0} {n : Int} : KeepG s (allocS E n s) := by unfold allocS; exact .ite .stop (.ite .stop (.ok ⟨Int.le_refl _, rfl⟩))
theorem read_stay {E : Env0} : KeepG s (readS E s) := by unfold readS; exact .ite (.ok ⟨Int.le_refl _, rfl⟩) (.ok (.refl s))
theorem write_stay {v : Int} : Stay s (writeS v s) := by
  unfold writeS
  split
  · exact ⟨Int.le_refl _, rfl⟩
  · exact .refl s
end
section
variable {E : EnvT}
theorem kid_stay {ev : MEx → PSt → Got Int} (h : ∀ e s, KeepG s (ev e s)) (l : List MEx) (i : Nat) (s : PSt) : KeepG s (kidS ev l i s) := by
  unfold kidS
  split
  · exact h _ s
  · exact .stop
theorem kids_stay {ev : MEx → PSt → Got Int} (h : ∀ e s, KeepG s (ev e s)) : ∀ (l : List MEx) (s : PSt), KeepG s (kidsS ev l s)
  | [], s => .ok (.refl s)
  | k :: r, s => (h k s).bind fun v s2 _ => (kids_stay h r s2).bind fun m s3 _ => .ok (.refl s3)
theorem expr_stay {call : Int → List Int → PSt → Got Int} {ev : MEx → PSt → Got Int} (hc : ∀ n l s, KeepG s (call n l s)) (h : ∀ e s, KeepG s (ev e s)) (loc : List Int) (e : MEx) (s : PSt) : KeepG s (exprF E call ev loc e s) := by
  refine step_stay.bind fun _ s _ => ?_
  unfold exprB
  refine .ite (.ok (.refl s)) (.ite (.ok (.refl s)) (.ite ?_ (.ite ?_ (.ite ?_ (.ite ?_ (.ite ?_ (.ite lk_stay (.ite lk_stay (.ite ?_ (.ite read_stay (.ite ?_ ?_)))))))))))
  · exact (kid_stay h _ _ s).bind fun a s _ => (kid_stay h _ _ s).bind fun b s _ => .ite (.ok (.refl s)) .stop
  · exact (kid_stay h _ _ s).bind fun a s _ => .ok (.refl s)
  · exact (kid_stay h _ _ s).bind fun a s _ => at_stay.bind fun k s _ => .ok (.refl s)
  · exact (kids_stay h _ s).bind fun l s _ => lk_stay.bind fun n s _ => hc n l s
  · exact (kids_stay h _ s).bind fun l s _ => hc _ _ s
  · exact (kid_stay h _ _ s).bind fun a s _ => alloc_stay
  · exact (kid_stay h _ _ s).bind fun a s _ => .ite (kid_stay h _ _ s) (kid_stay h _ _ s)
  · exact (kid_stay h _ _ s).bind fun a s _ => .ite .stop (kid_stay h _ _ s)
theorem stm_stay {st : MSt → Frm → PSt → Got (Int × Frm)} (h : ∀ x f s, KeepG s (st x f s)) : ∀ (l : List MSt) (f : Frm) (s : PSt), KeepG s (stmS st l f s)
  | [], f, s => .ok (.refl s)
  | x :: r, f, s => (h x f s).bind fun p s2 _ => .ite (.ok (.refl s2)) (stm_stay h r p.2 s2)
theorem loop_stay {E : Env0} {stm : Frm → PSt → Got (Int × Frm)} (h : ∀ f s, KeepG s (stm f s)) : ∀ (g : Nat) (f : Frm) (s : PSt), KeepG s (loopF E stm g f s)
  | 0, f, s => .stop
  | g + 1, f, s => step_stay.bind fun _ s _ => (h f s).bind fun p s2 _ => .ite (.ok (.refl s2)) (.ite (loop_stay h g p.2 s2) (.ite (.ok (.refl s2)) (.ite (.ok (.refl s2)) (loop_stay h g p.2 s2))))
theorem stat_stay {g : Nat} {ex : List Int → MEx → PSt → Got Int} {st : MSt → Frm → PSt → Got (Int × Frm)} (he : ∀ loc e s, KeepG s (ex loc e s)) (h : ∀ x f s, KeepG s (st x f s)) (x : MSt) (f : Frm) (s : PSt) : KeepG s (statF E g ex st x f s) := by
  refine step_stay.bind fun _ s _ => ?_
  unfold statB
  refine .ite ?_ (.ite ?_ (.ite ?_ (.ite ?_ (.ite ?_ (.ite (loop_stay (stm_stay h _) g f s) (.ite (.ok (.refl s)) (.ite (.ok (.refl s)) (.ite (.ite ?_ (.ok (.refl s))) (.ite .stop (.ok (.refl s)))))))))))
  · exact (kid_stay (he _) _ _ s).bind fun a s _ => .ok (.refl s)
  · exact (kid_stay (he _) _ _ s).bind fun a s _ => (kid_stay (he _) _ _ s).bind fun v s _ => at_stay.bind fun k s _ => .ok ⟨Int.le_refl _, rfl⟩
  · exact (kid_stay (he _) _ _ s).bind fun a s _ => .ok (.refl s)
  · exact (kid_stay (he _) _ _ s).bind fun a s _ => .ok write_stay
  · exact (kid_stay (he _) _ _ s).bind fun a s _ => .ite (stm_stay h _ _ s) (stm_stay h _ _ s)
  · exact (kid_stay (he _) _ _ s).bind fun a s _ => .ok (.refl s)
theorem enterT_stay {st : MSt → Frm → PSt → Got (Int × Frm)} (h : ∀ x f s, KeepG s (st x f s)) (n : Int) (l : List Int) (s : PSt) : KeepG s (enterT E st n l s) := by
  unfold enterT
  refine .ite .stop ?_
  split
  · exact .stop
  refine .ite .stop (.ite .stop ?_)
  intro x s' he
  cases hg : stmS st _ _ { s with opened := s.opened + 1 } with
  | stop k c s2 => rw [gbind_stop hg] at he; cases he
  | ok p s2 =>
    rw [gbind_ok hg] at he
    have h1 := stm_stay h _ _ _ p s2 hg
    injection he with _ he
    rw [← he]
    have e1 : ({ s with opened := s.opened + 1 } : PSt).opened = s.opened + 1 := rfl
    exact ⟨h1.1, by have := h1.2; show s2.opened - 1 = s.opened; omega⟩
theorem ev_stay (E : EnvT) : ∀ g : Nat, (∀ loc e s, KeepG s (exS E g loc e s)) ∧ (∀ x f s, KeepG s (stS E g x f s))
  | 0 => ⟨fun _ _ _ => .stop, fun _ _ _ => .stop⟩
  | g + 1 => ⟨fun loc e s => expr_stay (enterT_stay (ev_stay E g).2) ((ev_stay E g).1 loc) loc e s, fun x f s => stat_stay (ev_stay E g).1 (ev_stay E g).2 x f s⟩
theorem call_stay (g : Nat) (n : Int) (l : List Int) (s : PSt) : KeepG s (callT E g n l s) := enterT_stay (ev_stay E g).2 n l s
end
section
variable {α : Type} {n : Nat} {s : PSt}
variable {st : MSt → Frm → PSt → Got (Int × Frm)}
end
end Go.Mor
namespace Go.Mor
open Go.RowKit
section
variable {P : Program} {c : Code} {K : Act → World → Prop} {Q : Exit → Act → World → Prop} {a : Act} {w w0 : World} {S : Nat → Prop} {L : List Res} {k k' : Nat} {N : FN} {env : Env}
variable {d : Option Nat} {ty : Nat} {g : Option (Nat × Bool)}
theorem From_appendN {t : TypeId} {x y : Operand} (hk : coreAt c k = some (d, .call { callee := .builtin .append, args := #[x, y], argTypes := #[t, t] }, ty, g)) (hF : Fr a N env) (hg : guardE c g env = some true) (hd : okd d N = true) (hk' : k + 1 = k')
    {e size bytes : Nat} {z : Value} (ht : P.underlying t = some (.slice e)) (hi : (P.info? e).map (fun i => (i.size, i.bytes, i.zero)) = some (size, bytes, some z))
    (hzs : Nat.beq z.cells.size size = true) (hsz : Nat.blt 0 size = true) {A B : Option Addr} {n cap m cap' : Nat} {xs news : List Value} (hx : ev env x = some (.slice A n cap)) (hy : ev env y = some (.slice B m cap'))
    (hM : Mem S w0 w L) (i : Nat) (hL : L[i]? = some (.row e size A n cap xs)) (hsrc : (Res.rd B news).holds w)
    (hl : news.length = m * size) (h1 : ∀ u ∈ news, u.oneCell' = true) (hb : (n + m) * bytes ≤ 140737488355328) (hml : n + m ≤ maxLen) (nn : Nat) (ys : List Value) (hn : n + m = nn) (hys : xs ++ news = ys)
    (h : ∀ A' c' w', Mem S w0 w' (L.set i (.row e size A' nn c' ys)) → Mem (Res.row e size A n cap xs).fp w w' [.row e size A' nn c' ys] → ∀ a', a' = a.put d (.slice A' nn c') → Fr a' N (putE env d (.slice A' nn c')) → From P c K Q k' a' w') : From P c K Q k a w := by
  subst hn hys
  exact From_append hk hF hg hd hk' ht hi hzs hsz hx hy hM i hL hsrc hl h1 hb hml h
end
theorem setAt_next : ∀ (vs xs : List Value) (u : Value) (j : Nat), setAt (u :: xs) (j + 1) vs = u :: setAt xs j vs
  | [], _, _, _ => rfl
  | v :: vs, xs, u, j => by
    show setAt (u :: xs.set j v) (j + 1 + 1) vs = u :: setAt (xs.set j v) (j + 1) vs
    exact setAt_next vs (xs.set j v) u (j + 1)
theorem setAt_here : ∀ (vs xs ys : List Value), vs.length = xs.length → setAt (xs ++ ys) 0 vs = vs ++ ys
  | [], xs, ys, h => by
    obtain rfl : xs = [] := List.eq_nil_of_length_eq_zero h.symm
    rfl
  | v :: vs, [], ys, h => by simp at h
  | v :: vs, x :: xs, ys, h => by
    show setAt (v :: (xs ++ ys)) 1 vs = v :: (vs ++ ys)
    rw [← setAt_here vs xs ys (by simpa using h)]
    exact setAt_next vs (xs ++ ys) v 0
theorem setAt_pre : ∀ (us xs vs : List Value) (j : Nat), setAt (us ++ xs) (us.length + j) vs = us ++ setAt xs j vs
  | [], xs, vs, j => by simp
  | u :: us, xs, vs, j => by
    rw [show (u :: us).length + j = (us.length + j) + 1 by simp; omega, List.cons_append, setAt_next, setAt_pre us xs vs j, List.cons_append]
theorem setAt_flat {α : Type} {f : α → List Value} {k : Nat} (hf : ∀ x, (f x).length = k) (y : α) : ∀ (l : List α) (m : Nat), m < l.length → setAt (l.flatMap f) (m * k) (f y) = (l.set m y).flatMap f
  | [], m, h => by simp at h
  | x :: l, 0, _ => by
    rw [List.flatMap_cons, Nat.zero_mul, setAt_here _ _ _ (by rw [hf, hf])]
    rfl
  | x :: l, m + 1, h => by
    rw [List.flatMap_cons, show (m + 1) * k = (f x).length + m * k by rw [hf, Nat.succ_mul]; omega, setAt_pre, setAt_flat hf y l m (by simpa using h)]
    rfl
theorem flat_len {α : Type} {f : α → List Value} {k : Nat} (hf : ∀ x, (f x).length = k) (l : List α) : (l.flatMap f).length = l.length * k := by
  induction l with
  | nil => simp
  | cons x l ih => rw [List.flatMap_cons, List.length_append, hf, ih, List.length_cons, Nat.succ_mul]; omega
theorem flat_at {α : Type} {f : α → List Value} {k : Nat} (hf : ∀ x, (f x).length = k) : ∀ (l : List α) (i : Nat) (x : α), l[i]? = some x → ∀ (j : Nat) (v : Value), (f x)[j]? = some v → (l.flatMap f)[i * k + j]? = some v
  | [], i, x, h, _, _, _ => by simp at h
  | y :: l, 0, x, h, j, v, hv => by
    simp at h
    subst h
    rw [List.flatMap_cons, Nat.zero_mul, Nat.zero_add, List.getElem?_append_left (List.getElem?_eq_some_iff.1 hv).1]
    exact hv
  | y :: l, i + 1, x, h, j, v, hv => by
    simp at h
    rw [List.flatMap_cons, List.getElem?_append_right (by rw [hf, Nat.succ_mul]; omega), hf, show (i + 1) * k + j - k = i * k + j by rw [Nat.succ_mul]; omega]
    exact flat_at hf l i x h j v hv
theorem rds_rd {α : Type} {f : α → List Value} {k : Nat} (hf : ∀ x, (f x).length = k) {w : World} {A : Option Addr} : ∀ {l : List α}, (Res.rds A k (l.map f)).holds w → (Res.rd A (l.flatMap f)).holds w := by
  intro l h i v hi
  have hi2 : i < l.length * k := by rw [← flat_len hf]; exact (List.getElem?_eq_some_iff.1 hi).1
  have hk : 0 < k := by
    rcases Nat.eq_zero_or_pos k with h0 | h0
    · rw [h0, Nat.mul_zero] at hi2; exact absurd hi2 (Nat.not_lt_zero _)
    · exact h0
  have hq : i / k < l.length := Nat.div_lt_of_lt_mul (by rw [Nat.mul_comm]; exact hi2)
  obtain ⟨x, hx⟩ : ∃ x, l[i / k]? = some x := ⟨_, List.getElem?_eq_getElem hq⟩
  have hr : i % k < (f x).length := by rw [hf]; exact Nat.mod_lt _ hk
  have e : i = (i / k) * k + i % k := by rw [Nat.mul_comm]; exact (Nat.div_add_mod i k).symm
  obtain ⟨a, ha, hc⟩ := h (i / k) (f x) (by rw [List.getElem?_map, hx]; rfl)
  refine ⟨a, ha, ?_⟩
  have h2 := hc (i % k) (f x)[i % k] (List.getElem?_eq_getElem hr)
  have h3 : (l.flatMap f)[(i / k) * k + i % k]? = some (f x)[i % k] := flat_at hf l _ x hx _ _ (List.getElem?_eq_getElem hr)
  rw [← e, hi] at h3
  injection h3 with h3
  rw [← h3, addr_add, ← e] at h2
  exact h2
end Go.Mor
namespace Go.Mor
open Go.RowKit
abbrev vI (n : Int) : Value := .int .i64 n
abbrev vS (A : Option Addr) (n c : Nat) : Value := .slice A n c
theorem gm {α β : Type} {f : α → β} {l : List α} {i : Nat} {x : α} (h : l[i]? = some x) : (l.map f)[i]? = some (f x) := by rw [List.getElem?_map, h]; rfl
section
variable {P : Program} {c : Code} {K : Act → World → Prop} {Q : Exit → Act → World → Prop} {w : World} {N : FN} {env : Env}
theorem zcQ (x y : Int) (ht : x = y → ∀ a, Fr a N env → W P (Code.l c) K Q a w) (hf : ¬ x = y → ∀ a, Fr a N env → W P (Code.r c) K Q a w) (hk : condE c env = some (.bool (x == y)) := by kernel_rfl) : ∀ a, Fr a N env → W P c K Q a w := zcP (x == y) (x = y) beq_iff_eq ht hf hk
end
section
variable {P : Program} {c : Code} {K : Act → World → Prop} {Q : Exit → Act → World → Prop} {w w0 : World} {N : FN} {env : Env} {a : Act} {S : Nat → Prop} {L : List Res} {k : Nat}
theorem zAN (d : Nat) (x y : Operand) (t ty : TypeId) (hF : Fr a N env) {e size bytes : Nat} {z : Value} {A B : Option Addr} {n cap m cap' : Nat} {xs news : List Value}
    (hM : Mem S w0 w L) (i : Nat) (hL : L[i]? = some (.row e size A n cap xs)) (hsrc : (Res.rd B news).holds w)
    (hl : news.length = m * size) (h1 : ∀ u ∈ news, u.oneCell' = true) (hb : (n + m) * bytes ≤ 140737488355328) (hml : n + m ≤ maxLen) (nn : Nat) (ys : List Value) (hn : n + m = nn) (hys : xs ++ news = ys)
    (h : ∀ A' c' w', Mem S w0 w' (L.set i (.row e size A' nn c' ys)) → Mem (Res.row e size A n cap xs).fp w w' [.row e size A' nn c' ys] → ∀ a', a' = a.put (some d) (.slice A' nn c') → Fr a' N (putE env (some d) (.slice A' nn c')) → From P c K Q (k + 1) a' w')
    (hk : coreAt c k = some (some d, .call { callee := .builtin .append, args := #[x, y], argTypes := #[t, t] }, ty, none) := by kernel_rfl) (hd : okd (some d) N = true := by kernel_rfl) (ht : P.underlying t = some (.slice e) := by kernel_rfl)
    (hi : (P.info? e).map (fun i => (i.size, i.bytes, i.zero)) = some (size, bytes, some z) := by kernel_rfl) (hzs : Nat.beq z.cells.size size = true := by kernel_rfl) (hsz : Nat.blt 0 size = true := by kernel_rfl) (hx : ev env x = some (.slice A n cap) := by kernel_rfl) (hy : ev env y = some (.slice B m cap') := by kernel_rfl) : From P c K Q k a w :=
  From_appendN hk hF rfl hd rfl ht hi hzs hsz hx hy hM i hL hsrc hl h1 hb hml nn ys hn hys h
end
end Go.Mor

/-
  Texts of the proof, part 8.
-/
import Derived.Test.YtdcgcjibgihbbaaZg7
import Derived.Recover
set_option maxRecDepth 10000
namespace Go.Mor
open Go.RowKit
theorem zdf {P : Program} {c : Code} {K : Act → World → Prop} {Q : Exit → Act → World → Prop} {w : World} {k : Nat} {N : FN} {env : Env} (f : FuncId) (cap : List Value) (x : Operand) (ts : Array TypeId) (ty : Nat)
    (h : ∀ a, Fr a ⟨N.n, { target := .fn (.func f) cap.toArray, args := #[] } :: N.D⟩ env → From P c K Q (k + 1) a w)
    (hk : coreAt c k = some (none, .defer { callee := .value x, args := #[], argTypes := ts }, ty, none) := by kernel_rfl)
    (hx : ev env x = some (.func (.func f) #[] cap.toArray) := by kernel_rfl) : ∀ a, Fr a N env → From P c K Q k a w := fun a hF => by
  refine From_op hk hF rfl fun o h1 h2 h3 K' hK' => ?_
  unfold Oper.wp
  have hr : (execOp a.eval o).run P w = .ok (.defer { target := .fn (.func f) cap.toArray, args := #[] }) w := by
    unfold execOp
    rw [h2]
    simp [resolve, hF.ev hx, Deferred.ofValue]
  rw [hr, Oper.upon_defer]
  refine hK' _ _ (h _ ?_)
  rw [h1]
  exact ⟨by simp [Act.put, hF.defers], by simp [Act.put, hF.size], fun t v hv => by simpa [Act.put] using hF.slot t v hv⟩
theorem enterD {P : Program} {f : FuncId} {fn : Func} {N : FN} {vs : List Value} {w : World} {R : Ending → World → Prop} (hf : P.funcs[f]? = some fn)
    (h : ∀ a, Fr a N (argE 0 vs) → W P (bodyOf fn) (bodyPostD P fn R .normal) (bodyPostD P fn R) a w) (hb : fn.body.isSome = true := by kernel_rfl) (hn : Nat.beq fn.ntmps N.n = true := by kernel_rfl)
    (hl : Nat.ble vs.length N.n = true := by kernel_rfl) (hD : N.D = [] := by rfl) : Calls P f vs.toArray w R := by
  have hN : fn.ntmps = N.n := Nat.eq_of_beq_eq_true hn
  have hl' : vs.length ≤ N.n := Nat.le_of_ble_eq_true hl
  cases hbb : fn.body with
  | none => rw [hbb] at hb; cases hb
  | some c =>
    refine calls_of_wp_defers hf hbb ?_
    have := h { tmps := vs.toArray ++ Array.replicate (fn.ntmps - vs.toArray.size) undef, defers := [] } ⟨hD.symm, by simp [hN]; omega, ?_⟩
    · unfold W at this
      rw [show bodyOf fn = c by simp [bodyOf, hbb]] at this
      refine wp_mono this ?_
      intro e a w he
      cases e <;> exact he
    · intro t v hv
      obtain ⟨_, h2⟩ := look_argE vs 0 t hv
      simp only [Nat.sub_zero] at h2
      have ht : t < vs.length := (List.getElem?_eq_some_iff.1 h2).1
      rw [Array.getElem?_append_left (by simpa using ht)]
      simpa using h2
theorem leaves_one {P : Program} {fn : Func} {tmps : Array Value} {R : Ending → World → Prop} {f : FuncId} {cap : Array Value} {u u2 : FrameMode} {w : World} {X : World → Prop} (hf : callOk P f = true) (hu : u ≠ .run)
    (hc : CallsD P f cap u w fun e u' w' => (∃ v, e = .returned v) ∧ u' = u2 ∧ X w') (hs : settle u2 = .returning) (hX : ∀ w', X w' → ∃ v, (results fn tmps).run P w' = .ok v w' ∧ R (.returned v) w') :
    Leaves P fn tmps R [{ target := .fn (.func f) cap, args := #[] }] u w := by
  refine leaves_cons hu (f := f) (args := cap) ?_ ?_
  · simp [invoke, run_callFunc hf]
  · refine hc.mono ?_
    rintro e u' w' ⟨⟨v, rfl⟩, rfl, hx⟩
    show Leaves P fn tmps R [] (settle u') w'
    rw [hs]
    obtain ⟨r, hr, hR⟩ := hX w' hx
    exact ⟨r, hr, hR⟩
theorem results_cell2 {fn : Func} {t u : Tmp} {ty : TypeId} (h : fn.results = #[.cell t ty, .cell u ty]) (tmps : Array Value) (P : Program) (w : World) {ad ad' : Addr} {v v' : Value} (hp : tmps[t]? = some (.pointer (some ad))) (hq : tmps[u]? = some (.pointer (some ad')))
    (ht : oneT P ty = true) (hc : w.cell? ad = some v) (hc' : w.cell? ad' = some v') : (results fn tmps).run P w = .ok (.tuple #[v, v']) w := by
  have e1 : (asAddr (.pointer (some ad))).run P w = .ok ad w := rfl
  have e2 : (asAddr (.pointer (some ad'))).run P w = .ok ad' w := rfl
  have l1 : (loadVar ty ad).run P w = .ok v w := by simp [loadVar, isAgg_one ht, hc]
  have l2 : (loadVar ty ad').run P w = .ok v' w := by simp [loadVar, isAgg_one ht, hc']
  simp only [results, h]
  simp [Sem.run_bind, Result.andThen, Array.getD_eq_getD_getElem?, hp, hq, e1, e2, l1, l2]
def FromS (P : Program) (c : Code) (K : Act → List Frame → World → Prop) (Q : Exit → Act → List Frame → World → Prop) (k : Nat) (a : Act) (cs : List Frame) (w : World) : Prop :=
  wpOpsS P (opsOf c) (Exit.thenS K Q) ((List.range (opsOf c).size).drop k) a cs w
section
variable {P : Program} {c : Code} {K : Act → List Frame → World → Prop} {Q : Exit → Act → List Frame → World → Prop} {a : Act} {cs : List Frame} {w : World} {k : Nat}
theorem WS_region (hk : kind c = .region false) (h : FromS P c K Q 0 a cs w) : c.wpS P (Exit.thenS K Q) a cs w := by
  cases c <;> simp [kind] at hk
  subst hk
  exact wpS_region h
theorem range_drop {n k : Nat} (h : k < n) : (List.range n).drop k = k :: (List.range n).drop (k + 1) := by
  rw [List.drop_eq_getElem_cons (by simpa using h)]
  simp
theorem FromS_recover {d : Option Nat} {ts : Array TypeId} {ty : Nat} (hk : coreAt c k = some (d, .call { callee := .builtin .recover, args := #[], argTypes := ts }, ty, none))
    (h : match recoverD cs with | some (v, cs') => FromS P c K Q (k + 1) (a.put d v) cs' w | none => FromS P c K Q (k + 1) (a.put d .nilIface) cs w) : FromS P c K Q k a cs w := by
  unfold coreAt at hk
  cases ho : (opsOf c)[k]? with
  | none => rw [ho] at hk; cases hk
  | some o =>
    rw [ho] at hk
    simp only [Option.map_some, Option.some.injEq, Prod.mk.injEq] at hk
    obtain ⟨h1, h2, h3, h4⟩ := hk
    have hlt : k < (opsOf c).size := (Array.getElem?_eq_some_iff.1 ho).1
    unfold FromS
    rw [range_drop hlt]
    unfold wpOpsS
    have hw : Region.wanted o (yielded (opsOf c) a.tmps) = true := by simp [Region.wanted, h4]
    have hr : (execOp a.eval o).run P w = .ok .recover w := by
      unfold execOp
      rw [h2]
      simp [resolve, invoke, builtin]
    simp only [ho, hw, if_true, hr, h1]
    cases hq : recoverD cs with
    | none => rw [hq] at h; exact h
    | some p => obtain ⟨v, cs'⟩ := p; rw [hq] at h; exact h
theorem upon_mono {o : Oper} {a : Act} {n n' : Act → World → Prop} {Q Q' : Exit → Act → World → Prop} (hn : ∀ a w, n a w → n' a w) (hQ : ∀ e a w, Q e a w → Q' e a w) {r : Result Next} (h : o.upon P a n Q r) : o.upon P a n' Q' r := by
  cases r with
  | ok x w =>
    cases x <;> simp only [Oper.upon] at h ⊢ <;> first
      | exact hn _ _ h
      | exact h.mono (fun v w' hv => hn _ _ hv)
      | exact h.mono (fun e w'' he => by
          cases e with
          | returned v => exact hn _ _ he
          | panicked ch => exact hQ _ _ _ he
          | outgrown => obtain ⟨a0, w0, h0⟩ := he; exact ⟨a0, w0, hQ _ _ _ h0⟩)
      | exact h
  | halt x w => cases x <;> simp only [Oper.upon] at h ⊢ <;> first | exact hQ _ _ _ h | exact h
theorem FromS_of (hn : ∀ a w, ¬ Q .outgrown a cs w) : ∀ (n k : Nat) (a : Act) (w : World), (opsOf c).size ≤ k + n → From P c (fun a w => K a cs w) (fun e a w => Q e a cs w) k a w → FromS P c K Q k a cs w := by
  intro n
  induction n with
  | zero =>
    intro k a w hs h
    unfold From at h
    rw [List.drop_eq_nil_of_le (by simpa using hs)] at h
    unfold FromS
    rw [List.drop_eq_nil_of_le (by simpa using hs)]
    exact h
  | succ n ih =>
    intro k a w hs h
    by_cases hk : k < (opsOf c).size
    · have ho : (opsOf c)[k]? = some (opsOf c)[k] := by simp [hk]
      generalize hoo : (opsOf c)[k] = o at ho
      unfold From at h
      rw [drop_at ho] at h
      unfold wpList at h
      unfold FromS
      rw [range_drop hk]
      unfold wpOpsS
      simp only [ho]
      split at h
      · rename_i hw
        rw [if_pos hw]
        rcases h with h | ⟨_, a0, w0, h0⟩
        · unfold Oper.wp at h
          have key : o.upon P a (fun a' w' => wpOpsS P (opsOf c) (Exit.thenS K Q) ((List.range (opsOf c).size).drop (k + 1)) a' cs w') (fun e a' w' => (Exit.thenS K Q) e a' cs w') ((execOp a.eval o).run P w) := by
            refine upon_mono (fun a' w' h' => ih (k + 1) a' w' (by omega) h') (fun e a' w' h' => ?_) h
            cases e <;> exact h'
          split
          · rename_i w' hr
            rw [hr] at h
            exact h.elim
          · exact key
        · exact absurd h0 (hn a0 w0)
      · rename_i hw
        rw [if_neg hw]
        exact ih (k + 1) _ _ (by omega) h
    · unfold From at h
      rw [List.drop_eq_nil_of_le (by simp; omega)] at h
      unfold FromS
      rw [List.drop_eq_nil_of_le (by simp; omega)]
      exact h
end
end Go.Mor

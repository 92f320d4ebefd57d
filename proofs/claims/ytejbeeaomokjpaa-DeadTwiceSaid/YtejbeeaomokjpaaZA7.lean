/-
  Texts of the proof, part 7.
-/
import Derived.Test.YtejbeeaomokjpaaZA6
set_option maxRecDepth 10000
namespace Go.Mor
open Go.RowKit
def purE (P : Program) (c : Code) (N : FN) (n k : Nat) (env : Env) : Env := match pureRun P c N n k env with
  | some e => e
  | none => []
def isS {α : Type} : Option α → Bool
  | some _ => true
  | none => false
def keysE : Env → List Nat
  | [] => []
  | (k, _) :: r => k :: keysE r
def condE (c : Code) (env : Env) : Option Value := match kind c with
  | .cond (.tmp t) => look env t
  | _ => none
def szE (c : Code) : Nat := (opsOf c).size
def srE (c : Code) : Bool := match kind c, kind (Code.l c) with | .seq, .region false => true | _, _ => false
def cmE (c : Code) (N : FN) (env : Env) (k : Nat) : Option Bool := match coreAt c k with
  | some (d, .binOp op _ x y _, _, g) => match guardE c g env, okd d N, ev env x, ev env y with
    | some true, true, some (.int kd i), some (.int kd' j) => match decide (kd = kd') with
      | true => cmpI op i j
      | false => none
    | _, _, _, _ => none
  | _ => none
def stE (P : Program) (c : Code) (N : FN) (env : Env) (k : Nat) : Option (Option Nat × Addr × Value) := match coreAt c k with
  | some (d, .store t x y, _, g) => match guardE c g env, okd d N, oneT P t, ev env x, ev env y with
    | some true, true, true, some (.pointer (some ad)), some v => match v.oneCell' with
      | true => some (d, ad, v)
      | false => none
    | _, _, _, _, _ => none
  | _ => none
def rsE (fn : Func) (env : Env) : Option Value := match fn.results.toList with
  | [.tmp t] => look env t
  | _ => none
def rs2E (fn : Func) (env : Env) : Option (Value × Value) := match fn.results.toList with
  | [.tmp t, .tmp u] => match look env t, look env u with
    | some v, some v' => some (v, v')
    | _, _ => none
  | _ => none
section
variable {P : Program} {c : Code} {K : Act → World → Prop} {Q : Exit → Act → World → Prop} {w w0 : World} {S : Nat → Prop} {L : List Res} {k : Nat} {N : FN} {env : Env}
theorem zpn (n : Nat) (h : ∀ a, Fr a N (purE P c N n k env) → From P c K Q (k + n) a w) (hp : isS (pureRun P c N n k env) = true := by kernel_rfl) : ∀ a, Fr a N env → From P c K Q k a w := by
  intro a hF
  unfold purE at h
  cases hr : pureRun P c N n k env with
  | none => rw [hr] at hp; cases hp
  | some e =>
    rw [hr] at h
    exact pure_aux n k hF hr h
theorem zkp (env' : Env) {G : Act → Prop} (h : ∀ a, Fr a N env' → G a) (hk : keepE (keysE env') env = env' := by kernel_rfl) : ∀ a, Fr a N env → G a := fun a hF => h a (hF.keep hk)
theorem zfe (h : ∀ a, Fr a N env → K a w) (hk : coreAt c k = none := by kernel_rfl) : ∀ a, Fr a N env → From P c K Q k a w := fun a hF => From_end hk (h a hF)
theorem zsq (h : ∀ a, Fr a N env → W P (Code.l c) (fun a w => W P (Code.r c) K Q a w) Q a w) (hk : kind c = .seq := by kernel_rfl) : ∀ a, Fr a N env → W P c K Q a w := fun a hF => W_seq hk (h a hF)
theorem zrg (h : ∀ a, Fr a N env → From P c K Q 0 a w) (hk : kind c = .region false := by kernel_rfl) : ∀ a, Fr a N env → W P c K Q a w := fun a hF => W_region hk (h a hF)
theorem zsr (h : ∀ a, Fr a N env → From P (Code.l c) (fun a w => W P (Code.r c) K Q a w) Q 0 a w) (hk : srE c = true := by kernel_rfl) : ∀ a, Fr a N env → W P c K Q a w := fun a hF => W_sr hk (h a hF)
theorem zsp (h : ∀ a, Fr a N (purE P (Code.l c) N (szE (Code.l c)) 0 env) → W P (Code.r c) K Q a w) (hk : srE c = true := by kernel_rfl) (hp : isS (pureRun P (Code.l c) N (szE (Code.l c)) 0 env) = true := by kernel_rfl) :
    ∀ a, Fr a N env → W P c K Q a w := by
  refine zsr (zpn _ (fun a hF => From_end ?_ (h a hF)) hp) hk
  simp [coreAt, szE]
theorem zrp (h : ∀ a, Fr a N (purE P c N (szE c) 0 env) → K a w) (hk : kind c = .region false := by kernel_rfl) (hp : isS (pureRun P c N (szE c) 0 env) = true := by kernel_rfl) :
    ∀ a, Fr a N env → W P c K Q a w := by
  refine zrg (zpn _ (fun a hF => From_end ?_ (h a hF)) hp) hk
  simp [coreAt, szE]
theorem zsk (h : ∀ a, Fr a N env → K a w) (hk : kind c = .skip := by kernel_rfl) : ∀ a, Fr a N env → W P c K Q a w := fun a hF => W_skip hk (h a hF)
theorem zre (h : ∀ a, Fr a N env → Q .ret a w) (hk : kind c = .ret := by kernel_rfl) : ∀ a, Fr a N env → W P c K Q a w := fun a hF => W_ret hk (h a hF)
theorem zex (id : Nat) (h : ∀ a, Fr a N env → Q (.exit id) a w) (hk : kind c = .exit id := by kernel_rfl) : ∀ a, Fr a N env → W P c K Q a w := fun a hF => W_exit hk (h a hF)
theorem zbk (id : Nat) (h : ∀ a, Fr a N env → W P (Code.l c) K (inB id K Q) a w) (hk : kind c = .block id := by kernel_rfl) : ∀ a, Fr a N env → W P c K Q a w := fun a hF => W_block hk (h a hF)
theorem zbr {id : Nat} (h : ∀ a, Fr a N env → Q .ret a w) : ∀ a, Fr a N env → inB id K Q .ret a w := h
theorem zbh {id id' : Nat} (h : ∀ a, Fr a N env → K a w) (e : Nat.beq id' id = true := by rfl) : ∀ a, Fr a N env → inB id K Q (.exit id') a w := fun a hF => inB_hit e (h a hF)
theorem cond_spec {v : Value} (h : condE c env = some v) : ∃ t, kind c = .cond (.tmp t) ∧ look env t = some v := by
  unfold condE at h
  split at h
  · rename_i t ht; exact ⟨t, ht, h⟩
  · cases h
theorem zcT (h : ∀ a, Fr a N env → W P (Code.l c) K Q a w) (hk : condE c env = some (.bool true) := by kernel_rfl) : ∀ a, Fr a N env → W P c K Q a w := fun a hF => by
  obtain ⟨t, h1, h2⟩ := cond_spec hk
  exact W_cond h1 hF h2 (fun _ => h a hF) (fun h => Bool.noConfusion h)
theorem zcF (h : ∀ a, Fr a N env → W P (Code.r c) K Q a w) (hk : condE c env = some (.bool false) := by kernel_rfl) : ∀ a, Fr a N env → W P c K Q a w := fun a hF => by
  obtain ⟨t, h1, h2⟩ := cond_spec hk
  exact W_cond h1 hF h2 (fun h => Bool.noConfusion h) (fun _ => h a hF)
theorem zcP (e : Bool) (R : Prop) (i : e = true ↔ R) (ht : R → ∀ a, Fr a N env → W P (Code.l c) K Q a w) (hf : ¬ R → ∀ a, Fr a N env → W P (Code.r c) K Q a w) (hk : condE c env = some (.bool e) := by kernel_rfl) :
    ∀ a, Fr a N env → W P c K Q a w := fun a hF => by
  obtain ⟨t, h1, h2⟩ := cond_spec hk
  exact W_condP h1 hF h2 i (fun r => ht r a hF) (fun r => hf r a hF)
theorem zcD (R : Prop) [Decidable R] (ht : R → ∀ a, Fr a N env → W P (Code.l c) K Q a w) (hf : ¬ R → ∀ a, Fr a N env → W P (Code.r c) K Q a w) (hk : condE c env = some (.bool (decide R)) := by kernel_rfl) :
    ∀ a, Fr a N env → W P c K Q a w := zcP (decide R) R decide_eq_true_iff ht hf hk
theorem zld (ad : Addr) (v : Value) (hc : w.cell? ad = some v) (h : ∀ a, Fr a N (putE env (dstAt c k) v) → From P c K Q (k + 1) a w) (hk : ldE P c N env k = some (dstAt c k, ad) := by kernel_rfl) :
    ∀ a, Fr a N env → From P c K Q k a w := fun _ hF => From_ld _ ad hF hk v hc h
theorem zls (ad : Addr) (vs : List Value) (hc : ∀ j v, vs[j]? = some v → w.cell? (ad.add j) = some v) (h : ∀ a, Fr a N (putE env (dstAt c k) (.agg vs.toArray)) → From P c K Q (k + 1) a w)
    (hk : lsE P c N env k = some (dstAt c k, ad, some vs.length) := by kernel_rfl) : ∀ a, Fr a N env → From P c K Q k a w := fun _ hF => From_ls _ ad vs hF hk hc h
theorem zix (ad : Addr) (n size : Nat) (i : Int) (h : ∀ a, Fr a N (putE env (dstAt c k) (.pointer (some (ad.add (i.toNat * size))))) → From P c K Q (k + 1) a w) (h0 : 0 ≤ i := by omega) (h1 : i < n := by omega)
    (hk : ixE P c N env k = some (dstAt c k, some ad, n, size, i) := by kernel_rfl) : ∀ a, Fr a N env → From P c K Q k a w := fun _ hF => From_ix _ ad n size i hF hk h0 h1 h
theorem zar (z : Int) (h : ∀ a, Fr a N (putE env (dstAt c k) (.int .i64 z)) → From P c K Q (k + 1) a w) (h1 : -9223372036854775808 ≤ z := by omega) (h2 : z ≤ 9223372036854775807 := by omega)
    (hk : arE c N env k = some (dstAt c k, z) := by kernel_rfl) : ∀ a, Fr a N env → From P c K Q k a w := fun _ hF => From_ar _ z hF hk rfl h1 h2 h
theorem cm_spec {b : Bool} (h : cmE c N env k = some b) : ∃ d op t x y t' ty g kd i j, coreAt c k = some (d, .binOp op t x y t', ty, g) ∧ guardE c g env = some true ∧ okd d N = true ∧ ev env x = some (.int kd i) ∧ ev env y = some (.int kd j) ∧ cmpI op i j = some b := by
  unfold cmE at h
  split at h
  · rename_i h0
    split at h
    · rename_i h1 h2 h3 h4
      split at h
      · rename_i h5
        have := of_decide_eq_true h5
        subst this
        exact ⟨_, _, _, _, _, _, _, _, _, _, _, h0, h1, h2, h3, h4, h⟩
      · cases h
    · cases h
  · cases h
theorem zcm (b : Bool) (h : ∀ B, B = b → ∀ a, Fr a N (putE env (dstAt c k) (.bool B)) → From P c K Q (k + 1) a w) (hk : cmE c N env k = some b := by kernel_rfl) : ∀ a, Fr a N env → From P c K Q k a w := fun a hF => by
  obtain ⟨d, op, t, x, y, t', ty, g, kd, i, j, h0, h1, h2, h3, h4, h5⟩ := cm_spec hk
  have hd : dstAt c k = d := by unfold coreAt at h0; unfold dstAt; cases ho : (opsOf c)[k]? <;> rw [ho] at h0 <;> simp at h0 ⊢; exact h0.1
  rw [hd] at h
  exact From_cmp h0 hF h1 h2 rfl h3 h4 h5 (fun B hB a' _ => h B hB a')
theorem zcl {f : FuncId} {vs : Array Value} {Φ : Value → World → Prop} (hc : Calls P f vs w (Ret Φ)) (h : ∀ v w', Φ v w' → ∀ a, Fr a N (putE env (dstAt c k) v) → From P c K Q (k + 1) a w')
    (hk : clE P c N env k = some (dstAt c k, f, vs) := by kernel_rfl) : ∀ a, Fr a N env → From P c K Q k a w := fun _ hF => From_cl _ f vs.toList hF hk hc h
theorem st_spec {d : Option Nat} {ad : Addr} {v : Value} (h : stE P c N env k = some (d, ad, v)) : ∃ t x y ty g, coreAt c k = some (d, .store t x y, ty, g) ∧ guardE c g env = some true ∧ okd d N = true ∧ oneT P t = true ∧
    ev env x = some (.pointer (some ad)) ∧ ev env y = some v ∧ v.oneCell' = true := by
  unfold stE at h
  split at h
  · rename_i h0
    split at h
    · rename_i h1 h2 h3 h4 h5
      split at h
      · rename_i h6
        simp only [Option.some.injEq, Prod.mk.injEq] at h
        obtain ⟨rfl, rfl, rfl⟩ := h
        exact ⟨_, _, _, _, _, h0, h1, h2, h3, h4, h5, h6⟩
      · cases h
    · cases h
  · cases h
theorem zsb (hM : Mem S w0 w L) (i : Nat) (off : Nat) (v : Value) {b t0 : Nat} {cs : List Value} (hi : L[i]? = some (.blk b t0 cs)) (h : ∀ w', Mem S w0 w' (L.set i (.blk b t0 (cs.set off v))) → ∀ a, Fr a N (putE env (dstAt c k) undef) → From P c K Q (k + 1) a w')
    (ho : off < cs.length := by decide) (hk : stE P c N env k = some (dstAt c k, ⟨b, off, none⟩, v) := by kernel_rfl) : ∀ a, Fr a N env → From P c K Q k a w := fun a hF => by
  obtain ⟨t, x, y, ty, g, h0, h1, h2, h3, h4, h5, h6⟩ := st_spec hk
  exact From_store_blk h0 hF h1 h2 rfl h4 h5 h3 h6 hM i hi ho (fun w' hM' _ a' _ => h w' hM' a')
theorem zsw (hM : Mem S w0 w L) (i : Nat) (ad' : Addr) (j : Nat) (v : Value) {e size n cap : Nat} {ad : Addr} {xs : List Value} (hi : L[i]? = some (.row e size (some ad) n cap xs)) (had : ad' = ad.add j) (hj : j < n * size)
    (h : ∀ w', Mem S w0 w' (L.set i (.row e size (some ad) n cap (xs.set j v))) → ∀ a, Fr a N (putE env (dstAt c k) undef) → From P c K Q (k + 1) a w')
    (hk : stE P c N env k = some (dstAt c k, ad', v) := by kernel_rfl) : ∀ a, Fr a N env → From P c K Q k a w := fun a hF => by
  obtain ⟨t, x, y, ty, g, h0, h1, h2, h3, h4, h5, h6⟩ := st_spec hk
  exact From_store_row h0 hF h1 h2 rfl h4 had h5 h3 h6 hM i hi hj (fun w' hM' _ a' _ => h w' hM' a')
end
section
variable {P : Program} {w : World} {N : FN} {env : Env} {fn : Func} {Φ : Value → World → Prop}
theorem zo1 (v : Value) (h : Φ v w) (hk : rsE fn env = some v := by kernel_rfl) (hD : N.D = [] := by rfl) : ∀ a, Fr a N env → bodyPost P fn (Ret Φ) .ret a w := fun a hF => by
  unfold rsE at hk
  split at hk
  · rename_i t ht
    exact out1 hF (by apply Array.ext'; simpa using ht) hk ⟨v, rfl, h⟩ hD
  · cases hk
theorem zo2 (v v' : Value) (h : Φ (.tuple #[v, v']) w) (hk : rs2E fn env = some (v, v') := by kernel_rfl) (hD : N.D = [] := by rfl) : ∀ a, Fr a N env → bodyPost P fn (Ret Φ) .ret a w := fun a hF => by
  unfold rs2E at hk
  split at hk
  · rename_i t u ht
    split at hk
    · rename_i h1 h2
      simp only [Option.some.injEq, Prod.mk.injEq] at hk
      obtain ⟨rfl, rfl⟩ := hk
      exact out2 hF (by apply Array.ext'; simpa using ht) h1 h2 ⟨_, rfl, h⟩ hD
    · cases hk
  · cases hk
theorem zo0 (h : Φ (.tuple #[]) w) (hk : fn.results = #[] := by rfl) (hD : N.D = [] := by rfl) : ∀ a, Fr a N env → bodyPost P fn (Ret Φ) .normal a w := fun _ hF => out0 hF hk ⟨_, rfl, h⟩ hD
theorem zen {f : FuncId} (N : FN) (vs : List Value) (hf : P.funcs[f]? = some fn) (h : ∀ a, Fr a N (argE 0 vs) → W P (bodyOf fn) (bodyPost P fn (Ret Φ) .normal) (bodyPost P fn (Ret Φ)) a w)
    (hb : fn.body.isSome = true := by kernel_rfl) (hn : Nat.beq fn.ntmps N.n = true := by kernel_rfl) (hl : Nat.ble vs.length N.n = true := by kernel_rfl) (hD : N.D = [] := by rfl) : Calls P f vs.toArray w (Ret Φ) := enter hf hb hn hl h hD
end
def dvE : Spec → Option Value
  | .det u => some u
  | _ => none
def p1E (P : Program) (c : Code) (N : FN) (i : Nat) (env : Env) : Option Value := match coreAt c i with
  | some (d, op, _, g) => match guardE c g env, okd d N with
    | some true, true => pureOp P env op
    | _, _ => none
  | none => none
def gtE (c : Code) (i : Nat) (env : Env) : Option Bool := match coreAt c i with
  | some (_, _, _, g) => guardE c g env
  | none => none
theorem gt_spec {c : Code} {i : Nat} {env : Env} {b : Bool} (h : gtE c i env = some b) : ∀ g, (coreAt c i).map (·.2.2.2) = some g → guardE c g env = some b := by
  intro g hg
  unfold gtE at h
  split at h
  · rename_i h0
    rw [h0] at hg
    simp only [Option.map_some, Option.some.injEq] at hg
    subst hg
    exact h
  · cases h
theorem look_app_left {E F : Env} {t : Nat} {v : Value} (h : look E t = some v) : look (E ++ F) t = some v := by
  induction E with
  | nil => cases h
  | cons x r ih =>
    obtain ⟨k, u⟩ := x
    simp only [List.cons_append, look] at h ⊢
    cases hq : Nat.beq k t with
    | true => rw [hq] at h; exact h
    | false => rw [hq] at h; exact ih h
section
variable {P : Program} {c : Code} {Q : Exit → Act → World → Prop} {N : FN} {i : Nat} {env0 : Env} {wr : World} {sp : Nat → Spec}
theorem Fr.left {a : Act} {E F : Env} (h : Fr a N (E ++ F)) : Fr a N E := ⟨h.defers, h.size, fun t v hv => h.slot t v (look_app_left hv)⟩
theorem guard_left {g : Option (Nat × Bool)} {E F : Env} {b : Bool} (h : guardE c g E = some b) : guardE c g (E ++ F) = some b := by
  unfold guardE at h ⊢
  cases g with
  | none => exact h
  | some p =>
    obtain ⟨j, want⟩ := p
    simp only at h ⊢
    cases hd : ((opsOf c)[j]?).bind (·.dst) with
    | none => rw [hd] at h; cases h
    | some d =>
      rw [hd] at h
      simp only at h ⊢
      cases hl : look E d with
      | none => rw [hl] at h; cases h
      | some v =>
        rw [hl] at h
        rw [look_app_left hl]
        exact h
theorem op_of (hg : ∀ vs, gtE c i (predE c i sp vs env0) = some true)
    (h : ∀ (w : World) (vs : Nat → Value), Kp wr w → (∀ j, j ∈ predsOf c i → (sp j).ok (vs j) w) → ∀ a, Fr a N (predE c i sp vs env0) → From P (one c i) (fun a' w' => ∃ v, a' = a.put (dstAt c i) v ∧ Kp w w' ∧ (sp i).ok v w') Q 0 a w) : OpOK P c Q N env0 wr sp i := by
  intro a w vs rest hK hp hF
  exact ⟨true, fun g hg' => guard_left (gt_spec (hg vs) g hg'), fun _ => h w vs hK hp a hF.left, fun h => Bool.noConfusion h⟩
theorem one_at {o : Option Nat × Op × Nat × Option (Nat × Bool)} (h : coreAt c i = some o) : coreAt (one c i) 0 = some (o.1, o.2.1, o.2.2.1, none) ∧ dstAt c i = o.1 := by
  unfold coreAt at h
  cases ho : (opsOf c)[i]? with
  | none => rw [ho] at h; cases h
  | some q =>
    rw [ho] at h
    simp only [Option.map_some, Option.some.injEq] at h
    subst h
    constructor
    · unfold coreAt
      rw [one_core ho]
      rfl
    · simp [dstAt, ho]
theorem one_end {k : Nat} {o : Option Nat × Op × Nat × Option (Nat × Bool)} (h : coreAt c i = some o) : coreAt (one c i) (k + 1) = none := by
  unfold coreAt at h ⊢
  cases ho : (opsOf c)[i]? with
  | none => rw [ho] at h; cases h
  | some q =>
    rw [one_core ho]
    simp
theorem dP (h : ∀ vs, p1E P c N i (predE c i sp vs env0) = dvE (sp i) := by intro _; kernel_rfl) (h2 : isS (dvE (sp i)) = true := by kernel_rfl) : OpOK P c Q N env0 wr sp i := by
  have key : ∀ vs, ∃ d op ty g v, coreAt c i = some (d, op, ty, g) ∧ guardE c g (predE c i sp vs env0) = some true ∧ okd d N = true ∧ pureOp P (predE c i sp vs env0) op = some v ∧ sp i = .det v := by
    intro vs
    have h3 := h vs
    cases hs : sp i with
    | any Φ hh => rw [hs] at h2; cases h2
    | det u =>
      rw [hs] at h3
      unfold p1E dvE at h3
      simp only at h3
      split at h3
      · rename_i h4
        split at h3
        · rename_i h5 h6
          exact ⟨_, _, _, _, u, h4, h5, h6, h3, rfl⟩
        · cases h3
      · cases h3
  refine op_of (fun vs => ?_) (fun w vs hK hp a hF => ?_)
  · obtain ⟨d, op, ty, g, v, h1, h2, _⟩ := key vs
    unfold gtE
    rw [h1]
    exact h2
  · obtain ⟨d, op, ty, g, v, h1, h2, h3, h4, h5⟩ := key vs
    obtain ⟨e1, e2⟩ := one_at h1
    refine From_pure1 e1 hF rfl h3 rfl h4 (fun a' ea _ => From_end (one_end h1) ⟨v, ?_, Kp.refl w, ?_⟩)
    · rw [e2]; exact ea
    · rw [h5]; rfl
theorem ld_spec {k : Nat} {c : Code} {env : Env} {d : Option Nat} {ad : Addr} (hk : ldE P c N env k = some (d, ad)) : ∃ t x ty g, coreAt c k = some (d, .load t x, ty, g) ∧ guardE c g env = some true ∧ okd d N = true ∧ oneT P t = true ∧ ev env x = some (.pointer (some ad)) := by
  unfold ldE at hk
  split at hk
  · rename_i h0
    split at hk
    · rename_i h1 h2 h3 h4
      simp only [Option.some.injEq, Prod.mk.injEq] at hk
      obtain ⟨rfl, rfl⟩ := hk
      exact ⟨_, _, _, _, h0, h1, h2, h3, h4⟩
    · cases hk
  · cases hk
theorem ls_spec {k : Nat} {c : Code} {env : Env} {d : Option Nat} {ad : Addr} {n : Nat} (hk : lsE P c N env k = some (d, ad, some n)) : ∃ t x ty g, coreAt c k = some (d, .load t x, ty, g) ∧ guardE c g env = some true ∧ okd d N = true ∧ aggT P t = some n ∧ ev env x = some (.pointer (some ad)) := by
  unfold lsE at hk
  split at hk
  · rename_i h0
    split at hk
    · rename_i h1 h2 h4
      simp only [Option.some.injEq, Prod.mk.injEq] at hk
      obtain ⟨rfl, rfl, h3⟩ := hk
      exact ⟨_, _, _, _, h0, h1, h2, h3, h4⟩
    · cases hk
  · cases hk
theorem ix_spec {k : Nat} {c : Code} {env : Env} {d : Option Nat} {A : Option Addr} {n size : Nat} {j : Int} (hk : ixE P c N env k = some (d, A, n, size, j)) :
    ∃ t x y ty g cap e kd, coreAt c k = some (d, .indexAddr t x y, ty, g) ∧ guardE c g env = some true ∧ okd d N = true ∧ ev env x = some (.slice A n cap) ∧ ev env y = some (.int kd j) ∧ P.underlying t = some (.slice e) ∧ (P.info? e).map (·.size) = some size := by
  unfold ixE at hk
  split at hk
  · rename_i g0
    split at hk
    · rename_i g1 g2 g3 g4
      split at hk
      · rename_i e ht
        split at hk
        · rename_i inf hs
          simp only [Option.some.injEq, Prod.mk.injEq] at hk
          obtain ⟨rfl, rfl, rfl, rfl, rfl⟩ := hk
          exact ⟨_, _, _, _, _, _, _, _, g0, g1, g2, g3, g4, ht, by rw [hs]; rfl⟩
        · cases hk
      · cases hk
    · cases hk
  · cases hk
theorem ar_spec {k : Nat} {c : Code} {env : Env} {d : Option Nat} {z : Int} (hk : arE c N env k = some (d, z)) :
    ∃ op t x y t' ty g i j, coreAt c k = some (d, .binOp op t x y t', ty, g) ∧ guardE c g env = some true ∧ okd d N = true ∧ ev env x = some (.int .i64 i) ∧ ev env y = some (.int .i64 j) ∧ arI op i j = some z := by
  unfold arE at hk
  split at hk
  · rename_i g0
    split at hk
    · rename_i g1 g2 g3 g4
      split at hk
      · rename_i z hz
        simp only [Option.some.injEq, Prod.mk.injEq] at hk
        obtain ⟨rfl, rfl⟩ := hk
        exact ⟨_, _, _, _, _, _, _, _, _, g0, g1, g2, g3, g4, hz⟩
      · cases hk
    · cases hk
  · cases hk
theorem dL (ad : Addr) (v : Value) (hc : ∀ w', Kp wr w' → w'.cell? ad = some v) (hv : sp i = .det v := by rfl) (hg : ∀ vs, gtE c i (predE c i sp vs env0) = some true := by intro _; kernel_rfl)
    (hk : ∀ vs, ldE P (one c i) N (predE c i sp vs env0) 0 = some (dstAt c i, ad) := by intro _; kernel_rfl) (he : coreAt (one c i) 1 = none := by kernel_rfl) : OpOK P c Q N env0 wr sp i := by
  refine op_of hg (fun w vs hK hp a hF => ?_)
  obtain ⟨t, x, ty, g, h0, h1, h2, h3, h4⟩ := ld_spec (hk vs)
  exact From_load1 h0 hF h1 h2 rfl h4 h3 (hc w hK) (fun a' ea _ => From_end he ⟨v, ea, Kp.refl w, by rw [hv]; rfl⟩)
theorem dS (ad : Addr) (vs : List Value) (hc : ∀ w', Kp wr w' → ∀ j v, vs[j]? = some v → w'.cell? (ad.add j) = some v) (hv : sp i = .det (.agg vs.toArray) := by rfl) (hg : ∀ vs, gtE c i (predE c i sp vs env0) = some true := by intro _; kernel_rfl)
    (hk : ∀ vs', lsE P (one c i) N (predE c i sp vs' env0) 0 = some (dstAt c i, ad, some vs.length) := by intro _; kernel_rfl) (he : coreAt (one c i) 1 = none := by kernel_rfl) : OpOK P c Q N env0 wr sp i := by
  refine op_of hg (fun w vs' hK hp a hF => ?_)
  obtain ⟨t, x, ty, g, h0, h1, h2, h3, h4⟩ := ls_spec (hk vs')
  exact From_loadS h0 hF h1 h2 rfl h4 h3 (hc w hK) (fun a' ea _ => From_end he ⟨_, ea, Kp.refl w, by rw [hv]; rfl⟩)
theorem dI (ad : Addr) (n size : Nat) (j : Int) (h0 : 0 ≤ j := by omega) (h1 : j < n := by omega) (hv : sp i = .det (.pointer (some (ad.add (j.toNat * size)))) := by rfl) (hg : ∀ vs, gtE c i (predE c i sp vs env0) = some true := by intro _; kernel_rfl)
    (hk : ∀ vs, ixE P (one c i) N (predE c i sp vs env0) 0 = some (dstAt c i, some ad, n, size, j) := by intro _; kernel_rfl) (he : coreAt (one c i) 1 = none := by kernel_rfl) : OpOK P c Q N env0 wr sp i := by
  refine op_of hg (fun w vs hK hp a hF => ?_)
  obtain ⟨t, x, y, ty, g, cap, e, kd, g0, g1, g2, g3, g4, g5, g6⟩ := ix_spec (hk vs)
  exact From_index g0 hF g1 g2 rfl g3 g4 rfl g5 g6 h0 h1 (fun a' ea _ => From_end he ⟨_, ea, Kp.refl w, by rw [hv]; rfl⟩)
theorem dA (z : Int) (h1 : -9223372036854775808 ≤ z := by omega) (h2 : z ≤ 9223372036854775807 := by omega) (hv : sp i = .det (.int .i64 z) := by rfl) (hg : ∀ vs, gtE c i (predE c i sp vs env0) = some true := by intro _; kernel_rfl)
    (hk : ∀ vs, arE (one c i) N (predE c i sp vs env0) 0 = some (dstAt c i, z) := by intro _; kernel_rfl) (he : coreAt (one c i) 1 = none := by kernel_rfl) : OpOK P c Q N env0 wr sp i := by
  refine op_of hg (fun w vs hK hp a hF => ?_)
  obtain ⟨op, t, x, y, t', ty, g, i1, j1, g0, g1, g2, g3, g4, g5⟩ := ar_spec (hk vs)
  exact From_arith g0 hF g1 g2 rfl g3 g4 g5 h1 h2 (fun a' ea _ => From_end he ⟨_, ea, Kp.refl w, by rw [hv]; rfl⟩)
theorem dC (b : Bool) {B : Bool} (hb : B = b) (hv : sp i = .det (.bool B) := by rfl) (hg : ∀ vs, gtE c i (predE c i sp vs env0) = some true := by intro _; kernel_rfl)
    (hk : ∀ vs, cmE (one c i) N (predE c i sp vs env0) 0 = some b := by intro _; kernel_rfl) (he : coreAt (one c i) 1 = none := by kernel_rfl) : OpOK P c Q N env0 wr sp i := by
  refine op_of hg (fun w vs hK hp a hF => ?_)
  obtain ⟨d, op, t, x, y, t', ty, g, kd, i1, j1, g0, g1, g2, g3, g4, g5⟩ := cm_spec (hk vs)
  have hd : dstAt c i = d := by
    cases hc : coreAt c i with
    | none =>
      have := hg vs
      unfold gtE at this
      rw [hc] at this
      cases this
    | some o =>
      obtain ⟨e1, e2⟩ := one_at hc
      rw [e1] at g0
      simp only [Option.some.injEq, Prod.mk.injEq] at g0
      rw [e2, g0.1]
  exact From_cmp g0 hF g1 g2 rfl g3 g4 g5 (fun B' hB' a' ea _ => From_end he ⟨_, by rw [hd]; exact ea, Kp.refl w, by rw [hv, hB', hb]; rfl⟩)
end
section
variable {P : Program} {c : Code} {Q : Exit → Act → World → Prop} {N : FN} {i : Nat} {env0 : Env} {sp : Nat → Spec} {J : (Nat → Bool) → (Nat → Value) → World → Prop}
theorem opJ_of (hg : ∀ vs, gtE c i (predE c i sp vs env0) = some true)
    (h : ∀ (w : World) (ls : Nat → Bool) (vs : Nat → Value), J ls vs w → ls i = false → Closed c ls → (∀ j, j ∈ predsOf c i → ls j = true ∧ (sp j).ok (vs j) w) → ∀ a, Fr a N (predE c i sp vs env0) →
      From P (one c i) (fun a' w' => ∃ v, a' = a.put (dstAt c i) v ∧ (sp i).ok v w' ∧ J (setB ls i) (setV vs i v) w') Q 0 a w) : OpOKJ P c Q N env0 sp J i := by
  intro a w ls vs rest hJ hi hc hp hF
  exact ⟨true, fun g hg' => guard_left (gt_spec (hg vs) g hg'), fun _ => h w ls vs hJ hi hc hp a hF.left, fun h => Bool.noConfusion h⟩
theorem dPJ (hJ : ∀ ls vs v w, J ls vs w → J (setB ls i) (setV vs i v) w) (h : ∀ vs, p1E P c N i (predE c i sp vs env0) = dvE (sp i) := by intro _; kernel_rfl) (h2 : isS (dvE (sp i)) = true := by kernel_rfl) : OpOKJ P c Q N env0 sp J i := by
  have key : ∀ vs, ∃ d op ty g v, coreAt c i = some (d, op, ty, g) ∧ guardE c g (predE c i sp vs env0) = some true ∧ okd d N = true ∧ pureOp P (predE c i sp vs env0) op = some v ∧ sp i = .det v := by
    intro vs
    have h3 := h vs
    cases hs : sp i with
    | any Φ hh => rw [hs] at h2; cases h2
    | det u =>
      rw [hs] at h3
      unfold p1E dvE at h3
      simp only at h3
      split at h3
      · rename_i h4
        split at h3
        · rename_i h5 h6
          exact ⟨_, _, _, _, u, h4, h5, h6, h3, rfl⟩
        · cases h3
      · cases h3
  refine opJ_of (fun vs => ?_) (fun w ls vs hj hi hc hp a hF => ?_)
  · obtain ⟨d, op, ty, g, v, h1, h2, _⟩ := key vs
    unfold gtE
    rw [h1]
    exact h2
  · obtain ⟨d, op, ty, g, v, h1, h2, h3, h4, h5⟩ := key vs
    obtain ⟨e1, e2⟩ := one_at h1
    refine From_pure1 e1 hF rfl h3 rfl h4 (fun a' ea _ => From_end (one_end h1) ⟨v, ?_, ?_, hJ _ _ _ _ hj⟩)
    · rw [e2]; exact ea
    · rw [h5]; rfl
theorem dIJ (ad : Addr) (n size : Nat) (j : Int) (hJ : ∀ ls vs v w, J ls vs w → J (setB ls i) (setV vs i v) w) (h0 : 0 ≤ j := by omega) (h1 : j < n := by omega) (hv : sp i = .det (.pointer (some (ad.add (j.toNat * size)))) := by rfl) (hg : ∀ vs, gtE c i (predE c i sp vs env0) = some true := by intro _; kernel_rfl)
    (hk : ∀ vs, ixE P (one c i) N (predE c i sp vs env0) 0 = some (dstAt c i, some ad, n, size, j) := by intro _; kernel_rfl) (he : coreAt (one c i) 1 = none := by kernel_rfl) : OpOKJ P c Q N env0 sp J i := by
  refine opJ_of hg (fun w ls vs hj hi hc hp a hF => ?_)
  obtain ⟨t, x, y, ty, g, cap, e, kd, g0, g1, g2, g3, g4, g5, g6⟩ := ix_spec (hk vs)
  exact From_index g0 hF g1 g2 rfl g3 g4 rfl g5 g6 h0 h1 (fun a' ea _ => From_end he ⟨_, ea, by rw [hv]; rfl, hJ _ _ _ _ hj⟩)
theorem dAJ (z : Int) (hJ : ∀ ls vs v w, J ls vs w → J (setB ls i) (setV vs i v) w) (h1 : -9223372036854775808 ≤ z := by omega) (h2 : z ≤ 9223372036854775807 := by omega) (hv : sp i = .det (.int .i64 z) := by rfl) (hg : ∀ vs, gtE c i (predE c i sp vs env0) = some true := by intro _; kernel_rfl)
    (hk : ∀ vs, arE (one c i) N (predE c i sp vs env0) 0 = some (dstAt c i, z) := by intro _; kernel_rfl) (he : coreAt (one c i) 1 = none := by kernel_rfl) : OpOKJ P c Q N env0 sp J i := by
  refine opJ_of hg (fun w ls vs hj hi hc hp a hF => ?_)
  obtain ⟨op, t, x, y, t', ty, g, i1, j1, g0, g1, g2, g3, g4, g5⟩ := ar_spec (hk vs)
  exact From_arith g0 hF g1 g2 rfl g3 g4 g5 h1 h2 (fun a' ea _ => From_end he ⟨_, ea, by rw [hv]; rfl, hJ _ _ _ _ hj⟩)
theorem dLJ (ad : Addr) (v : Value) (hJ : ∀ ls vs v w, J ls vs w → J (setB ls i) (setV vs i v) w) (hc : ∀ w ls vs, J ls vs w → ls i = false → Closed c ls → (∀ j, j ∈ predsOf c i → ls j = true) → w.cell? ad = some v) (hv : sp i = .det v := by rfl)
    (hg : ∀ vs, gtE c i (predE c i sp vs env0) = some true := by intro _; kernel_rfl)
    (hk : ∀ vs, ldE P (one c i) N (predE c i sp vs env0) 0 = some (dstAt c i, ad) := by intro _; kernel_rfl) (he : coreAt (one c i) 1 = none := by kernel_rfl) : OpOKJ P c Q N env0 sp J i := by
  refine opJ_of hg (fun w ls vs hj hi hcl hp a hF => ?_)
  obtain ⟨t, x, ty, g, h0, h1, h2, h3, h4⟩ := ld_spec (hk vs)
  exact From_load1 h0 hF h1 h2 rfl h4 h3 (hc w ls vs hj hi hcl (fun j hj' => (hp j hj').1)) (fun a' ea _ => From_end he ⟨v, ea, by rw [hv]; rfl, hJ _ _ _ _ hj⟩)
end
end Go.Mor
namespace Go.Mor
theorem zne {α : Type} [BEq α] [LawfulBEq α] {a b : α} (h : false = (a == b)) : ¬ (a = b) := fun e => Bool.false_ne_true (h.trans (beq_iff_eq.2 e))
theorem znn {α : Type} [BEq α] [LawfulBEq α] {a b : α} (h : false = (a != b)) : ¬ (a ≠ b) := fun e => Bool.false_ne_true (h.trans (bne_iff_ne.2 e))
end Go.Mor
namespace Go.Mor
open Go.RowKit
abbrev dU : Spec := .det undef
theorem lz {p : Nat → Prop} : ∀ i, i < 0 → p i := lt_zero_all
theorem la {p : Nat → Prop} {n : Nat} (h : ∀ i, i < n → p i) (hn : p n) : ∀ i, i < n + 1 → p i := lt_succ_all h hn
section
variable {P : Program} {c : Code} {Q : Exit → Act → World → Prop} {N : FN} {i : Nat} {env0 : Env} {wr : World} {sp : Nat → Spec}
theorem dK (hv : sp i = .det undef := by rfl) (hg : ∀ vs, gtE c i (predE c i sp vs env0) = some false := by intro _; kernel_rfl) : OpOK P c Q N env0 wr sp i := by
  intro a w vs rest hK hp hF
  exact ⟨false, fun g hg' => guard_left (gt_spec (hg vs) g hg'), fun h => Bool.noConfusion h, fun _ => by rw [hv]; rfl⟩
theorem dIA (A : Option Addr) (ad : Addr) (n size : Nat) (j : Int) (hA : A = some ad) (h0 : 0 ≤ j := by omega) (h1 : j < n := by omega) (hv : sp i = .det (.pointer (some (ad.add (j.toNat * size)))) := by rfl) (hg : ∀ vs, gtE c i (predE c i sp vs env0) = some true := by intro _; kernel_rfl)
    (hk : ∀ vs, ixE P (one c i) N (predE c i sp vs env0) 0 = some (dstAt c i, A, n, size, j) := by intro _; kernel_rfl) (he : coreAt (one c i) 1 = none := by kernel_rfl) : OpOK P c Q N env0 wr sp i :=
  dI ad n size j h0 h1 hv hg (fun vs => by rw [hk vs, hA]) he
theorem cl_spec {k : Nat} {c : Code} {env : Env} {d : Option Nat} {f : FuncId} {vs : Array Value} (hk : clE P c N env k = some (d, f, vs)) :
    ∃ x args ts ty g us cap, coreAt c k = some (d, .call { callee := .value x, args := args, argTypes := ts }, ty, g) ∧ guardE c g env = some true ∧ okd d N = true ∧ ev env x = some (.func (.func f) #[] cap) ∧ evs env args.toList = some us ∧ callOk P f = true ∧ (us ++ cap.toList).toArray = vs := by
  unfold clE at hk
  split at hk
  · rename_i d' x args ts ty g g0
    split at hk
    · rename_i f' first cap us g1 g2 g3 g4
      split at hk
      · rename_i hs hf
        simp only [Option.some.injEq, Prod.mk.injEq] at hk
        obtain ⟨rfl, rfl, hv⟩ := hk
        have hfirst : first = #[] := Array.eq_empty_of_size_eq_zero hs
        subst hfirst
        exact ⟨x, args, ts, ty, g, us, cap, g0, g1, g2, g3, g4, hf, hv⟩
      · cases hk
    · cases hk
  · cases hk
theorem dD {f : FuncId} {vs : Array Value} {u u' : Value} (hc : ∀ w, Kp wr w → Calls P f vs w (Ret fun v w' => v = u ∧ Mem noS w w' [])) (hu : u = u') (hv : sp i = .det u' := by rfl) (hg : ∀ vs, gtE c i (predE c i sp vs env0) = some true := by intro _; kernel_rfl)
    (hk : ∀ vs', clE P (one c i) N (predE c i sp vs' env0) 0 = some (dstAt c i, f, vs) := by intro _; kernel_rfl) (he : coreAt (one c i) 1 = none := by kernel_rfl) : OpOK P c Q N env0 wr sp i := by
  refine op_of hg (fun w vs' hK hp a hF => ?_)
  obtain ⟨x, args, ts, ty, g, us, cap, g0, g1, g2, g3, g4, g5, g6⟩ := cl_spec (hk vs')
  refine From_call (Φ := fun v w' => v = u ∧ Mem noS w w' []) g0 hF g1 g2 rfl (cap := cap.toList) (by simpa using g3) g4 g5 (by rw [g6]; exact hc w hK) (fun v w' hv' a' ea _ => From_end he ⟨v, ea, hv'.2, ?_⟩)
  rw [hv, hv'.1]; exact hu
end
def mvL : Nat → List Res → List Res
  | 0, L => L
  | _ + 1, [] => []
  | n + 1, a :: L => match mvL n L with
    | [] => [a]
    | b :: M => b :: a :: M
def odL : List Nat → List Res → List Res
  | [], L => L
  | i :: l, L => odL l (mvL i L)
def tkL : Nat → List Res → List Res
  | 0, _ => []
  | _ + 1, [] => []
  | n + 1, a :: L => a :: tkL n L
theorem mvL_perm : ∀ (n : Nat) (L : List Res), L.Perm (mvL n L)
  | 0, L => List.Perm.refl L
  | _ + 1, [] => List.Perm.refl []
  | n + 1, a :: L => by
    unfold mvL
    have h := mvL_perm n L
    cases hm : mvL n L with
    | nil => rw [hm] at h; exact h.cons a
    | cons b M => rw [hm] at h; exact (h.cons a).trans (List.Perm.swap b a M)
theorem odL_perm : ∀ (l : List Nat) (L : List Res), L.Perm (odL l L)
  | [], L => List.Perm.refl L
  | i :: l, L => (mvL_perm i L).trans (odL_perm l _)
theorem tkL_pick : ∀ (n : Nat) (L : List Res), pickL (List.replicate n true) L = tkL n L
  | 0, [] => rfl
  | 0, _ :: _ => rfl
  | _ + 1, [] => rfl
  | n + 1, a :: L => by
    rw [List.replicate_succ]
    show a :: pickL (List.replicate n true) L = a :: tkL n L
    rw [tkL_pick n L]
section
variable {S : Nat → Prop} {w0 w w' : World} {L Lr L' : List Res} {r r' s s' : Res}
theorem Mem.nf (h : Mem S w0 w L) (e : L = L' := by dsimp only [List.set_cons_zero, List.set_cons_succ, List.cons_append, List.nil_append]) : Mem S w0 w L' := e ▸ h
theorem Mem.cl (h : Mem S w0 w L) (h' : Mem noS w w' Lr) (e : L ++ Lr = L' := by dsimp only [List.cons_append, List.nil_append, List.append_nil]) : Mem S w0 w' L' := e ▸ h.call h'
theorem Mem.md (h : Mem S w0 w L) (i : Nat) (hi : L[i]? = some r) (h' : Mem r.fp w w' (r' :: Lr)) (e : L.set i r' ++ Lr = L' := by dsimp only [List.set_cons_zero, List.set_cons_succ, List.cons_append, List.nil_append, List.append_nil]) : Mem S w0 w' L' := e ▸ h.mod i hi h'
theorem Mem.od (h : Mem S w0 w L) (l : List Nat) (k : Nat) (e : tkL k (odL l L) = L' := by dsimp only [tkL, odL, mvL]) : Mem S w0 w L' := e ▸ (h.perm (odL_perm l L)).pick _ (tkL_pick k _)
theorem Mem.tk (h : Mem S w0 w L) (k : Nat) (e : tkL k L = L' := by rfl) : Mem S w0 w L' := e ▸ h.pick _ (tkL_pick k _)
end
abbrev pT (b o : Nat) : Value := .pointer (some ⟨b, o, none⟩)
abbrev sM (g : Nat) : Option Addr := some ⟨g, 0, none⟩
abbrev nV (k : Nat) : Value := .int .i64 (k : Int)
theorem Fr.kp {a : Act} {N : FN} {env : Env} (h : Fr a N env) (keep : List Nat) {env' : Env} (e : keepE keep env = env' := by kernel_rfl) : Fr a N env' := h.keep e
section
variable {P : Program} {c : Code} {K : Act → World → Prop} {Q : Exit → Act → World → Prop} {a : Act} {w w0 : World} {S : Nat → Prop} {L : List Res} {k : Nat} {N : FN} {env : Env}
theorem zlp (I : Nat → Act → World → Prop) {n : Nat} (h0 : I n a w) (round : ∀ n a w, I n a w → W P (Code.l c) (fun a' w' => ∃ m, m < n ∧ I m a' w') Q a w) (hk : kind c = .loop := by kernel_rfl) : W P c K Q a w := W_loop hk I h0 round
theorem zpk (n k' : Nat) {news : Env} (keys : List Nat) (hF : Fr a N env) (hp : (pureRun P c N n k env).map (keepE keys) = some news) (h : ∀ a', Fr a' N (news ++ env) → From P c K Q k' a' w) (hc : clearK keys env (dstsOf c n k) = true := by kernel_rfl) (hk : k + n = k' := by rfl) : From P c K Q k a w := From_pureN n k' keys hF hp hc hk h
def bxE (_P : Program) (c : Code) (N : FN) (env : Env) (k : Nat) : Option (Option Nat × TypeId × Value) := match coreAt c k with
  | some (d, .box t x, _, g) => match guardE c g env, okd d N, ev env x with
    | some true, true, some v => some (d, t, v)
    | _, _, _ => none
  | _ => none
theorem zbx (hM : Mem S w0 w L) (t : TypeId) (v : Value) (cs : List Value) (h : ∀ b w', w0.heap.size ≤ b → Mem S w0 w' (L ++ [.blk b t cs]) → ∀ a, Fr a N (putE env (dstAt c k) (.pointer (some ⟨b, 0, none⟩))) → From P c K Q (k + 1) a w')
    (hcs : v.cells = cs.toArray := by rfl) (hk : bxE P c N env k = some (dstAt c k, t, v) := by kernel_rfl) : ∀ a, Fr a N env → From P c K Q k a w := by
  intro a hF
  unfold bxE at hk
  split at hk
  · rename_i g0
    split at hk
    · rename_i g1 g2 g3
      simp only [Option.some.injEq, Prod.mk.injEq] at hk
      obtain ⟨e1, rfl, rfl⟩ := hk
      rw [e1] at g0 g2
      exact From_box g0 hF g1 g2 rfl g3 hcs hM (fun b w' hb _ hM' _ a' _ hF' => h b w' hb hM' a' hF')
    · cases hk
  · cases hk
def alE (_P : Program) (c : Code) (N : FN) (env : Env) (k : Nat) : Option (Option Nat × TypeId) := match coreAt c k with
  | some (d, .alloc t, _, g) => match guardE c g env, okd d N with
    | some true, true => some (d, t)
    | _, _ => none
  | _ => none
theorem zal (hM : Mem S w0 w L) (t : TypeId) (cs : List Value) (h : ∀ b w', w0.heap.size ≤ b → Mem S w0 w' (L ++ [.blk b t cs]) → ∀ a, Fr a N (putE env (dstAt c k) (.pointer (some ⟨b, 0, none⟩))) → From P c K Q (k + 1) a w')
    (hz : (P.info? t).map (fun i => i.zero.map (fun z => z.cells.toList)) = some (some cs) := by kernel_rfl) (hk : alE P c N env k = some (dstAt c k, t) := by kernel_rfl) : ∀ a, Fr a N env → From P c K Q k a w := by
  intro a hF
  unfold alE at hk
  split at hk
  · rename_i g0
    split at hk
    · rename_i g1 g2
      simp only [Option.some.injEq, Prod.mk.injEq] at hk
      obtain ⟨e1, rfl⟩ := hk
      rw [e1] at g0 g2
      exact From_alloc g0 hF g1 g2 rfl hz hM (fun b w' hb _ hM' _ a' _ hF' => h b w' hb hM' a' hF')
    · cases hk
  · cases hk
def ssE (P : Program) (c : Code) (N : FN) (env : Env) (k : Nat) : Option (Option Nat × Nat × Nat × Array Value × Option Nat) := match coreAt c k with
  | some (d, .store t x y, _, g) => match guardE c g env, okd d N, ev env x, ev env y with
    | some true, true, some (.pointer (some ⟨b, o, none⟩)), some (.agg vs) => some (d, b, o, vs, aggT P t)
    | _, _, _, _ => none
  | _ => none
theorem zss (hM : Mem S w0 w L) (i : Nat) (vs : List Value) {b t0 : Nat} {cs : List Value} (hi : L[i]? = some (.blk b t0 cs)) (h : ∀ w', Mem S w0 w' (L.set i (.blk b t0 vs)) → ∀ a, Fr a N (putE env (dstAt c k) undef) → From P c K Q (k + 1) a w')
    (hv : vs.all Value.oneCell' = true := by rfl) (ho : cs.length = vs.length := by rfl) (hk : ssE P c N env k = some (dstAt c k, b, 0, vs.toArray, some vs.length) := by kernel_rfl) : ∀ a, Fr a N env → From P c K Q k a w := by
  intro a hF
  unfold ssE at hk
  split at hk
  · rename_i g0
    split at hk
    · rename_i g1 g2 g3 g4
      simp only [Option.some.injEq, Prod.mk.injEq] at hk
      obtain ⟨e1, rfl, rfl, rfl, e5⟩ := hk
      rw [e1] at g0 g2
      exact From_storeS_blk g0 hF g1 g2 rfl g3 g4 e5 (List.all_eq_true.1 hv) hM i hi ho (fun w' hM' _ a' _ hF' => h w' hM' a' hF')
    · cases hk
  · cases hk
end
section
variable {P : Program} {c : Code} {K : Act → World → Prop} {Q : Exit → Act → World → Prop} {N : FN} {env0 : Env} {wr : World} {a : Act}
theorem zdr (sp : Nat → Spec) (hF : Fr a N env0) (hops : ∀ i, i < (opsOf c).size → OpOK P c Q N env0 wr sp i)
    (h : ∀ a' w' (vs : Nat → Value), Kp wr w' → (∀ j, j < (opsOf c).size → (sp j).ok (vs j) w') → Fr a' N (valsE c sp vs (List.range (opsOf c).size) ++ restE c env0) → K a' w')
    (hk : kind c = .region true := by kernel_rfl) (hm : P.follows .mixedOrders = true := by kernel_rfl) (hd : dstsOk c = true := by kernel_rfl) (hpl : predsLt c = true := by kernel_rfl) (hkeys : keysOk env0 = true := by kernel_rfl)
    (hdn : (List.range (opsOf c).size).all (fun i => okd (dstAt c i) N) = true := by kernel_rfl) : W P c K Q a wr := W_draw hk hm sp hd hpl hF hkeys hdn hops h
theorem zdj (sp : Nat → Spec) (J : (Nat → Bool) → (Nat → Value) → World → Prop) (hF : Fr a N env0) (hdet : ∀ j v w w', (sp j).ok v w → (sp j).ok v w')
    (h0 : J (fun _ => false) (fun _ => undef) wr.drew) (hops : ∀ i, i < (opsOf c).size → OpOKJ P c Q N env0 sp J i)
    (h : ∀ a' w' (ls : Nat → Bool) (vs : Nat → Value), (∀ j, j < (opsOf c).size → ls j = true) → J ls vs w' → (∀ j, j < (opsOf c).size → (sp j).ok (vs j) w') → Fr a' N (valsE c sp vs (List.range (opsOf c).size) ++ restE c env0) → K a' w')
    (hk : kind c = .region true := by kernel_rfl) (hm : P.follows .mixedOrders = true := by kernel_rfl) (hd : dstsOk c = true := by kernel_rfl) (hpl : predsLt c = true := by kernel_rfl) (hkeys : keysOk env0 = true := by kernel_rfl)
    (hdn : (List.range (opsOf c).size).all (fun i => okd (dstAt c i) N) = true := by kernel_rfl) : W P c K Q a wr := W_drawJ hk hm sp J hd hpl hF hkeys hdn hdet h0 hops h
end
section
variable {P : Program} {c : Code} {K : Act → World → Prop} {Q : Exit → Act → World → Prop} {w w0 : World} {S : Nat → Prop} {L : List Res} {k : Nat} {N : FN} {env : Env} {a : Act}
theorem zAp (d : Nat) (x y : Operand) (t ty : TypeId) (hF : Fr a N env) {e size bytes : Nat} {z : Value} {A B : Option Addr} {n cap m cap' : Nat} {xs news : List Value}
    (hM : Mem S w0 w L) (i : Nat) (hL : L[i]? = some (.row e size A n cap xs)) (hsrc : (Res.rd B news).holds w)
    (hl : news.length = m * size) (h1 : ∀ u ∈ news, u.oneCell' = true) (hb : (n + m) * bytes ≤ 140737488355328) (hml : n + m ≤ maxLen)
    (h : ∀ A' c' w', Mem S w0 w' (L.set i (.row e size A' (n + m) c' (xs ++ news))) → Mem (Res.row e size A n cap xs).fp w w' [.row e size A' (n + m) c' (xs ++ news)] → ∀ a', a' = a.put (some d) (.slice A' (n + m) c') → Fr a' N (putE env (some d) (.slice A' (n + m) c')) → From P c K Q (k + 1) a' w')
    (hk : coreAt c k = some (some d, .call { callee := .builtin .append, args := #[x, y], argTypes := #[t, t] }, ty, none) := by kernel_rfl) (hd : okd (some d) N = true := by kernel_rfl) (ht : P.underlying t = some (.slice e) := by kernel_rfl)
    (hi : (P.info? e).map (fun i => (i.size, i.bytes, i.zero)) = some (size, bytes, some z) := by kernel_rfl) (hzs : Nat.beq z.cells.size size = true := by kernel_rfl) (hsz : Nat.blt 0 size = true := by kernel_rfl) (hx : ev env x = some (.slice A n cap) := by kernel_rfl) (hy : ev env y = some (.slice B m cap') := by kernel_rfl) : From P c K Q k a w :=
  From_append hk hF rfl hd rfl ht hi hzs hsz hx hy hM i hL hsrc hl h1 hb hml h
theorem zBs (d : Nat) (t : TypeId) (len : Nat) (ps : Array (Nat × Operand)) (ty : TypeId) (hF : Fr a N env) {e size : Nat} {zs : List Value} {vs : List (Nat × Value)} {cs : List Value} (hM : Mem S w0 w L)
    (h : ∀ b w', w0.heap.size ≤ b → w.heap.size ≤ b → Mem S w0 w' (L ++ [.row e size (some ⟨b, 0, none⟩) len len cs]) → Mem noS w w' [.row e size (some ⟨b, 0, none⟩) len len cs] →
      ∀ a', a' = a.put (some d) (.slice (some ⟨b, 0, none⟩) len len) → Fr a' N (putE env (some d) (.slice (some ⟨b, 0, none⟩) len len)) → From P c K Q (k + 1) a' w')
    (hk : coreAt c k = some (some d, .buildSlice t len ps, ty, none) := by kernel_rfl) (hd : okd (some d) N = true := by kernel_rfl) (ht : P.underlying t = some (.slice e) := by kernel_rfl)
    (hi : (P.info? e).map (fun i => (i.size, i.zero.map (·.cells.toList))) = some (size, some zs) := by kernel_rfl) (hp : parts env ps.toList = some vs := by kernel_rfl) (hsz : (Nat.ble 1 (len * size) && Nat.ble (len * size) 1000) = true := by kernel_rfl)
    (hfill : Instr.fill (fun i => some (i * size, size)) ((Array.range (len * size)).map (zs.toArray[· % zs.toArray.size]!)) vs = some cs.toArray := by kernel_rfl) (hl : Nat.beq cs.length (len * size) = true := by kernel_rfl) : From P c K Q k a w :=
  From_buildSlice hk hF rfl hd rfl ht hi hp hsz hfill hl hM h
theorem zMk (d : Nat) (t : TypeId) (x y : Operand) (ty : TypeId) (hF : Fr a N env) {e bytes : Nat} {z : Value} {n : Nat} {i : Int} (hb : bytes * n ≤ 140737488355328) (hl : n ≤ maxLen) (hM : Mem S w0 w L)
    (h : ∀ b w', w0.heap.size ≤ b → w.heap.size ≤ b → Mem S w0 w' (L ++ [.row e 1 (some ⟨b, 0, none⟩) n n (List.replicate n z)]) → Mem noS w w' [.row e 1 (some ⟨b, 0, none⟩) n n (List.replicate n z)] →
      ∀ a', a' = a.put (some d) (.slice (some ⟨b, 0, none⟩) n n) → Fr a' N (putE env (some d) (.slice (some ⟨b, 0, none⟩) n n)) → From P c K Q (k + 1) a' w')
    (hk : coreAt c k = some (some d, .makeSlice t x y, ty, none) := by kernel_rfl) (hd : okd (some d) N = true := by kernel_rfl) (hx : ev env x = some (.int .i64 i) := by kernel_rfl) (hy : ev env y = some (.int .i64 i) := by kernel_rfl) (hn : i = (n : Int) := by rfl) (ht : P.underlying t = some (.slice e) := by kernel_rfl)
    (hi : (P.info? e).map (fun i => (i.size, i.bytes, i.zero)) = some (1, bytes, some z) := by kernel_rfl) (hz : z.oneCell' = true := by rfl) : From P c K Q k a w :=
  From_make1 hk hF rfl hd rfl hx hy hn ht hi hz hb hl hM h
end
end Go.Mor
namespace Go.Mor
open Go.RowKit
section
variable {P : Program} {c : Code} {Q : Exit → Act → World → Prop} {N : FN} {env0 : Env} {wr : World} {sp : Nat → Spec} {i : Nat}
theorem dMN (kd : IntKind) (i1 j1 z : Int) (x y : Operand) (ts : Array TypeId) (ty : Nat) (g : Option (Nat × Bool)) (hz : z = if j1 < i1 then j1 else i1) (hv : sp i = .det (.int kd z) := by rfl)
    (h0 : coreAt (one c i) 0 = some (dstAt c i, .call { callee := .builtin .min, args := #[x, y], argTypes := ts }, ty, g) := by kernel_rfl) (hg : ∀ vs, gtE c i (predE c i sp vs env0) = some true := by intro _; kernel_rfl)
    (h1 : ∀ vs, guardE (one c i) g (predE c i sp vs env0) = some true := by intro _; kernel_rfl) (h2 : okd (dstAt c i) N = true := by kernel_rfl)
    (hx : ∀ vs, ev (predE c i sp vs env0) x = some (.int kd i1) := by intro _; kernel_rfl) (hy : ∀ vs, ev (predE c i sp vs env0) y = some (.int kd j1) := by intro _; kernel_rfl) (he : coreAt (one c i) 1 = none := by kernel_rfl) : OpOK P c Q N env0 wr sp i := by
  refine op_of hg (fun w vs hK hp a hF => ?_)
  exact From_min h0 hF (h1 vs) h2 rfl (hx vs) (hy vs) z hz (fun a' ea _ => From_end he ⟨_, ea, Kp.refl w, by rw [hv]; rfl⟩)
end
end Go.Mor
namespace Go.Mor
open Go.RowKit
section
variable {P : Program} {c : Code} {K : Act → World → Prop} {Q : Exit → Act → World → Prop} {w w0 : World} {S : Nat → Prop} {L : List Res} {k : Nat} {N : FN} {env : Env}
end
section
variable {P : Program} {w : World} {N : FN} {env : Env} {fn : Func} {Φ Ψ : Value → World → Prop}
end
end Go.Mor

/-
  Texts of the proof, part 5.
-/
import Derived.Test.YtdcgcjibgihbbaaZg4
import Derived.ProofKit
import Derived.Deep.Fields
import Derived.Lib.SmallJoins
set_option maxRecDepth 10000
namespace Go.Mor
open Go.ChangeShapes Go.WideShapes Go.Deep
section
variable {H : Type} {enc : TypeId × Value → H} {P : Program} {w : World} {base : Nat} {spare : Nat → Bool} {held : Bool}
theorem int_of {t : TypeId} {k : IntKind} (ht : P.underlying t = some (.int k)) {fuel : Nat} {v : Value} {x : DataW H × List MemPlace} (h : DataW.trod enc P w base spare held fuel t [v] = some x) :
    ∃ n, v = .int k n ∧ k.min ≤ n ∧ n ≤ k.max := by
  obtain ⟨n, h1, _, h2⟩ := DataW.trod_int ht h
  simp at h1
  simp only [Lit.wf, Bool.and_eq_true, decide_eq_true_eq] at h2
  exact ⟨n, h1, h2.1, h2.2⟩
theorem list_of {α : Type} {n : Nat} {p : Nat → α → Prop} (h : ∀ i, i < n → ∃ x, p i x) : ∃ l : List α, l.length = n ∧ ∀ i x, l[i]? = some x → p i x := by
  induction n with
  | zero => exact ⟨[], rfl, by simp⟩
  | succ n ih =>
    obtain ⟨l, hl, hp⟩ := ih fun i hi => h i (by omega)
    obtain ⟨x, hx⟩ := h n (by omega)
    refine ⟨l ++ [x], by simp [hl], fun i y hi => ?_⟩
    rcases Nat.lt_trichotomy i n with h1 | h1 | h1
    · rw [List.getElem?_append_left (by omega)] at hi; exact hp i y hi
    · subst h1; rw [List.getElem?_append_right (by omega)] at hi; simp [hl] at hi; exact hi ▸ hx
    · rw [List.getElem?_eq_none (by simp; omega)] at hi; cases hi
end
end Go.Mor
namespace Go.Mor
open Go.ChangeShapes Go.WideShapes Go.ChangeAt Go.RowKit Go.Deep
section
variable {H : Type} {enc : TypeId × Value → H} {P : Program}
theorem trodAll_stays (hl : laidOutB P = true) {base : Nat} {sp : Nat → Bool} {W W' : World} : ∀ {ts : List TypeId} {vs : List Value} {ds : List (DataW H)} {ps : List MemPlace},
    ts.all (fun t => P.readableRec t && decide (t < P.types.size)) = true → DataW.TrodAll enc P W base (fun _ => true) true ts vs ds ps → (∀ p ∈ ps, W.sameAt W' p) → (∀ p ∈ ps, sp p.block = true) →
    DataW.TrodAll enc P W' base sp true ts vs ds ps
  | [], vs, ds, ps, _, h, _, _ => by
    cases vs <;> cases ds <;> simp_all [DataW.TrodAll]
  | t :: ts, vs, ds, ps, hr, h, hsame, hs => by
    obtain ⟨v, vs', d, ds', p, q, rfl, rfl, rfl, h1, h2⟩ := trodAll_cons h
    simp only [List.all_cons, Bool.and_eq_true, decide_eq_true_eq] at hr
    exact ⟨p, q, WideElems.Trod_stays hl hr.1.1 hr.1.2 h1 (fun x hx => hsame x (List.mem_append_left _ hx)) (fun x hx => hs x (List.mem_append_left _ hx)),
      trodAll_stays hl hr.2 h2 (fun x hx => hsame x (List.mem_append_right _ hx)) (fun x hx => hs x (List.mem_append_right _ hx)), rfl⟩
theorem post_true (hl : laidOutB P = true) {f : Func} {s : ChangeSpec} {W W' : World} {args : Array Value} {ds gs : List (DataW H)} {ps : List MemPlace} {tb : TypeId} (hb : P.underlying tb = some .bool) (hres : f.resultTypes = #[tb])
    (hr : f.params.toList.all (fun t => P.readableRec t && decide (t < P.types.size)) = true) (hv : s.vars = []) (hW : DataW.Whole enc P f.params.toList [] false W args.toList ds gs ps)
    (h1 : (s.fn H (ds ++ gs)).results = [.lit (.bool true)]) (h2 : (s.fn H (ds ++ gs)).args = ds) (h3 : (s.fn H (ds ++ gs)).vars = []) {w' : World} (hm : Mem noS W W' []) (e : W' = w') :
    s.post enc P f false true false false W args (.bool true) w' := by
  subst e
  obtain ⟨p, q, hA, hV, hpq, hz, hn⟩ := hW
  obtain ⟨hg, hq⟩ := trodVars_none hV
  subst hg; subst hq
  have hb' : Below W.heap.size W W' := hm.below
  have hW' : DataW.Whole enc P f.params.toList [] false W args.toList ds [] ps := ⟨p, [], hA, hV, hpq, hz, hn⟩
  have hlt := hW'.lt
  rw [List.append_nil] at hpq
  subst hpq
  refine ⟨ds, [], ps, [], ps, [], by rw [hv]; exact hW', ?_, ?_, ?_, hb'.frame _, fun h => by simp at h⟩
  · rw [h1, hres]
    exact trodAll_mk1 (shut_bool hb _)
  · rw [h2]
    exact trodAll_stays hl hr hA (fun x hx => hb'.same (hlt x hx)) (fun x hx => by simpa using hlt x hx)
  · rw [h3, hv]
    exact (rfl : _ = _)
end
end Go.Mor
namespace Go.Mor
open Go.RowKit
theorem From_conv {P : Program} {c : Code} {K : Act → World → Prop} {Q : Exit → Act → World → Prop} {a : Act} {w : World} {k k' : Nat} {N : FN} {env : Env} {d : Option Nat} {ty : Nat} {g : Option (Nat × Bool)}
    {t t' : TypeId} {x : Operand} (hk : coreAt c k = some (d, .convert t t' x, ty, g)) (hF : Fr a N env) (hg : guardE c g env = some true) (hd : okd d N = true) (hk' : k + 1 = k')
    {kd kd' ks : IntKind} {i z : Int} (hx : ev env x = some (.int kd i)) (hs : P.underlying t = some (.int ks)) (ht : P.underlying t' = some (.int kd')) (hz : kd'.wrap i = z)
    (h : ∀ a', a' = a.put d (.int kd' z) → Fr a' N (putE env d (.int kd' z)) → From P c K Q k' a' w) : From P c K Q k a w := by
  refine From_same hk hF hg hd hk' (fun o ho => ?_) h
  unfold execOp
  rw [ho]
  simp [hF.ev hx, convert, Sem.run_bind, run_underlying hs, run_underlying ht, Result.andThen_ok, Conv.intToInt, hz]
theorem u8_of {n : Int} (h : (Lit.int .u8 n).wf = true) : 0 ≤ n ∧ n ≤ 255 := by
  simp only [Lit.wf, Bool.and_eq_true, decide_eq_true_eq] at h
  exact ⟨h.1, h.2⟩
end Go.Mor
namespace Go.Mor
open Go.RowKit
def Res.rds (A : Option Addr) (size : Nat) (css : List (List Value)) : Res where
  fp := fun k => (∃ i cs, css[i]? = some cs ∧ cs ≠ []) ∧ ∃ a, A = some a ∧ a.block = k
  holds w := ∀ i cs, css[i]? = some cs → ∃ ad, A = some ad ∧ ∀ j v, cs[j]? = some v → w.cell? ((ad.add (i * size)).add j) = some v
  stable := by
    intro w w' h hw i cs hi
    obtain ⟨a, ha, hc⟩ := hw i cs hi
    refine ⟨a, ha, fun j v hj => ?_⟩
    rw [← hc j v hj]
    refine World.cell?_of_block ?_
    rw [block_add, block_add]
    exact h a.block ⟨⟨i, cs, hi, by rintro rfl; simp at hj⟩, a, ha, rfl⟩
  lt := by
    rintro w k hw ⟨⟨i, cs, hi, hne⟩, a, rfl, rfl⟩
    obtain ⟨a', ha, hc⟩ := hw i cs hi
    injection ha with ha
    subst ha
    cases cs with
    | nil => exact absurd rfl hne
    | cons x cs =>
      have h0 := hc 0 x rfl
      unfold World.cell? at h0
      split at h0
      · rename_i h; have := lt_of_heap h; rwa [block_add, block_add] at this
      · cases h0
theorem rds_get {w : World} {A : Option Addr} {size : Nat} {css : List (List Value)} {ad : Addr} (h : (Res.rds A size css).holds w) (hA : A = some ad) {i : Nat} {cs : List Value} (hi : css[i]? = some cs) :
    ∀ j v, cs[j]? = some v → w.cell? ((ad.add (i * size)).add j) = some v := by
  obtain ⟨a', ha, hc⟩ := h i cs hi
  rw [hA] at ha
  injection ha with ha
  subst ha
  exact hc
theorem rds_some {w : World} {A : Option Addr} {size : Nat} {css : List (List Value)} {cs : List Value} {i : Nat} (h : (Res.rds A size css).holds w) (hi : css[i]? = some cs) : ∃ ad, A = some ad := by
  obtain ⟨a', ha, _⟩ := h i cs hi
  exact ⟨a', ha⟩
structure SB where
  pA : Option Addr
  pn : Nat
  pc : Nat
  iA : Option Addr
  ik : Nat
  ic : Nat
  e : Int
  v : Int
  a : Int
  b : Int
def inR (n : Nat) (t : Int) : Bool := decide (0 ≤ t) && decide (t < n)
def tgx (n : Nat) (x : SB) : List Int :=
  (if x.e = 0 then [x.a] else if x.e = 1 then (if x.a = x.b then [x.a] else [x.a, x.b]) else []).filter (inR n)
def tg (bs : List SB) (b : Int) : List Int := if 0 ≤ b then (match bs[b.toNat]? with
  | some x => tgx bs.length x
  | none => []) else []
theorem ints_set (l : List Int) (i : Nat) (v : Int) : ints (l.set i v) = (ints l).set i (.int .i64 v) := by simp [ints, List.map_set]
def srcsTo (bs : List SB) (b : Int) (k : Nat) : List Int := ((List.range k).filter (fun i : Nat => (tg bs (i : Int)).contains b)).map (fun i : Nat => (i : Int))
def srcs (bs : List SB) (b : Int) : List Int := srcsTo bs b bs.length
def kept (p : Int → Bool) (l : List Int) (j : Nat) : List Int := (l.take j).filter (fun x => !p x)
end Go.Mor
namespace Go.Mor
open Go.RowKit
def dstsOf (c : Code) : Nat → Nat → List Nat
  | 0, _ => []
  | n + 1, k => match coreAt c k with
    | some (some d, _, _, _) => d :: dstsOf c n (k + 1)
    | _ => dstsOf c n (k + 1)
def hasK (l : List Nat) (t : Nat) : Bool := match l with
  | [] => false
  | x :: r => match Nat.beq x t with
    | true => true
    | false => hasK r t
def inE (env : Env) (t : Nat) : Bool := match env with
  | [] => false
  | (x, _) :: r => match Nat.beq x t with
    | true => true
    | false => inE r t
def clearK (keys : List Nat) (env : Env) : List Nat → Bool
  | [] => true
  | d :: r => match hasK keys d with
    | true => clearK keys env r
    | false => match inE env d with
      | true => false
      | false => clearK keys env r
theorem hasK_mem {l : List Nat} {t : Nat} (h : hasK l t = true) : t ∈ l := by
  induction l with
  | nil => cases h
  | cons x r ih =>
    unfold hasK at h
    split at h
    · rename_i hb
      exact List.mem_cons.2 (.inl (Nat.eq_of_beq_eq_true hb).symm)
    · exact List.mem_cons_of_mem _ (ih h)
theorem inE_look {env : Env} {t : Nat} {v : Value} (h : look env t = some v) : inE env t = true := by
  induction env with
  | nil => simp [look] at h
  | cons x r ih =>
    obtain ⟨k, u⟩ := x
    unfold look at h
    unfold inE
    split at h
    · rename_i hb; rw [hb]
    · rename_i hb; rw [hb]; exact ih h
theorem clearK_out {keys : List Nat} {env : Env} {ds : List Nat} (h : clearK keys env ds = true) {t : Nat} (ht : t ∈ ds) {v : Value} (hv : look env t = some v) : t ∈ keys := by
  induction ds with
  | nil => cases ht
  | cons d r ih =>
    unfold clearK at h
    rcases List.mem_cons.1 ht with rfl | ht
    · split at h
      · rename_i hk; exact hasK_mem hk
      · rw [inE_look hv] at h; cases h
    · split at h
      · exact ih h ht
      · split at h
        · cases h
        · exact ih h ht
theorem look_app {l r : Env} {t : Nat} : look (l ++ r) t = match look l t with
    | some v => some v
    | none => look r t := by
  induction l with
  | nil => rfl
  | cons x l ih =>
    obtain ⟨k, u⟩ := x
    show look ((k, u) :: (l ++ r)) t = _
    simp only [look]
    split
    · rfl
    · exact ih
theorem keepE_in {keys : List Nat} {env : Env} {t : Nat} {v : Value} (h : t ∈ keys) (hv : look env t = some v) : look (keepE keys env) t = some v := by
  induction keys with
  | nil => cases h
  | cons k r ih =>
    unfold keepE
    by_cases e : k = t
    · subst e
      rw [hv]
      simp [look, Nat.beq_refl]
    · have hb : Nat.beq k t = false := by
        rw [← Bool.not_eq_true]
        exact fun h => e (Nat.eq_of_beq_eq_true h)
      rcases List.mem_cons.1 h with rfl | h
      · exact absurd rfl e
      · split
        · simp only [look, hb]
          exact ih h
        · exact ih h
theorem pureRun_look {P : Program} {c : Code} {N : FN} : ∀ (n k : Nat) {env e1 : Env}, pureRun P c N n k env = some e1 → ∀ t, t ∉ dstsOf c n k → look e1 t = look env t
  | 0, k, env, e1, h, t, _ => by
    simp only [pureRun, Option.some.injEq] at h
    rw [h]
  | n + 1, k, env, e1, h, t, ht => by
    simp only [pureRun] at h
    split at h
    · rename_i d op ty g hk
      have step : ∀ v, pureRun P c N n (k + 1) (putE env d v) = some e1 → look e1 t = look env t := by
        intro v hv
        cases d with
        | none =>
          simp only [dstsOf, hk] at ht
          exact pureRun_look n (k + 1) hv t ht
        | some d =>
          simp only [dstsOf, hk, List.mem_cons, not_or] at ht
          have := pureRun_look n (k + 1) hv t ht.2
          rw [this]
          have hb : Nat.beq d t = false := by
            rw [← Bool.not_eq_true]
            exact fun h => ht.1 (Nat.eq_of_beq_eq_true h).symm
          simp [putE, look, hb]
      split at h
      · split at h
        · split at h
          · exact step _ h
          · cases h
        · exact step _ h
        · cases h
      · cases h
    · cases h
theorem pureRun_pre {P : Program} {c : Code} {N : FN} : ∀ (n k : Nat) {env e1 : Env}, pureRun P c N n k env = some e1 → ∃ pre, e1 = pre ++ env
  | 0, k, env, e1, h => by
    simp only [pureRun, Option.some.injEq] at h
    exact ⟨[], h.symm⟩
  | n + 1, k, env, e1, h => by
    simp only [pureRun] at h
    split at h
    · rename_i d op ty g hk
      have step : ∀ v, pureRun P c N n (k + 1) (putE env d v) = some e1 → ∃ pre, e1 = pre ++ env := by
        intro v hv
        obtain ⟨pre, hp⟩ := pureRun_pre n (k + 1) hv
        cases d with
        | none => exact ⟨pre, hp⟩
        | some d => exact ⟨pre ++ [(d, v)], by rw [hp]; simp [putE]⟩
      split at h
      · split at h
        · split at h
          · exact step _ h
          · cases h
        · exact step _ h
        · cases h
      · cases h
    · cases h
theorem From_pureN {P : Program} {c : Code} {K : Act → World → Prop} {Q : Exit → Act → World → Prop} {w : World} {N : FN} (n k' : Nat) {k : Nat} {a : Act} {env news : Env} (keys : List Nat) (hF : Fr a N env) (hp : (pureRun P c N n k env).map (keepE keys) = some news)
    (hc : clearK keys env (dstsOf c n k) = true) (hk : k + n = k') (h : ∀ a', Fr a' N (news ++ env) → From P c K Q k' a' w) : From P c K Q k a w := by
  cases hr : pureRun P c N n k env with
  | none => rw [hr] at hp; cases hp
  | some env1 =>
    rw [hr] at hp
    simp only [Option.map_some, Option.some.injEq] at hp
    subst hk
    refine pure_aux n k hF hr (fun a' hF' => h a' ⟨hF'.defers, hF'.size, fun t v hv => ?_⟩)
    rw [look_app] at hv
    split at hv
    · rename_i u hu
      injection hv with hv
      subst hv
      rw [← hp] at hu
      exact hF'.slot t u (look_keepE hu)
    · rename_i hu
      refine hF'.slot t v ?_
      by_cases hd : t ∈ dstsOf c n k
      · have hk := clearK_out hc hd hv
        cases he : look env1 t with
        | some x =>
          have h1 := keepE_in hk he
          rw [hp, hu] at h1
          cases h1
        | none =>
          exfalso
          obtain ⟨pre, hpre⟩ := pureRun_pre n k hr
          rw [hpre, look_app] at he
          split at he
          · cases he
          · rw [hv] at he; cases he
      · rw [pureRun_look n k hr t hd]; exact hv
end Go.Mor
namespace Go.Mor
open Go.RowKit
def ldE (P : Program) (c : Code) (N : FN) (env : Env) (k : Nat) : Option (Option Nat × Addr) := match coreAt c k with
  | some (d, .load t x, _, g) => match guardE c g env, okd d N, oneT P t, ev env x with
    | some true, true, true, some (.pointer (some ad)) => some (d, ad)
    | _, _, _, _ => none
  | _ => none
def lsE (P : Program) (c : Code) (N : FN) (env : Env) (k : Nat) : Option (Option Nat × Addr × Option Nat) := match coreAt c k with
  | some (d, .load t x, _, g) => match guardE c g env, okd d N, ev env x with
    | some true, true, some (.pointer (some ad)) => some (d, ad, aggT P t)
    | _, _, _ => none
  | _ => none
def ixE (P : Program) (c : Code) (N : FN) (env : Env) (k : Nat) : Option (Option Nat × Option Addr × Nat × Nat × Int) := match coreAt c k with
  | some (d, .indexAddr t x y, _, g) => match guardE c g env, okd d N, ev env x, ev env y with
    | some true, true, some (.slice A n _), some (.int _ i) => match P.underlying t with
      | some (.slice e) => match P.info? e with
        | some inf => some (d, A, n, inf.size, i)
        | none => none
      | _ => none
    | _, _, _, _ => none
  | _ => none
def arE (c : Code) (N : FN) (env : Env) (k : Nat) : Option (Option Nat × Int) := match coreAt c k with
  | some (d, .binOp op _ x y _, _, g) => match guardE c g env, okd d N, ev env x, ev env y with
    | some true, true, some (.int .i64 i), some (.int .i64 j) => match arI op i j with
      | some z => some (d, z)
      | none => none
    | _, _, _, _ => none
  | _ => none
def clE (P : Program) (c : Code) (N : FN) (env : Env) (k : Nat) : Option (Option Nat × Nat × Array Value) := match coreAt c k with
  | some (d, .call { callee := .value x, args := args, argTypes := _ }, _, g) => match guardE c g env, okd d N, ev env x, evs env args.toList with
    | some true, true, some (.func (.func f) first cap), some vs => match first.size, callOk P f with
      | 0, true => some (d, f, (vs ++ cap.toList).toArray)
      | _, _ => none
    | _, _, _, _ => none
  | _ => none
def gdE (c : Code) (N : FN) (env : Env) (k : Nat) : Option (Option Nat × Option Bool) := match coreAt c k with
  | some (d, _, _, g) => match okd d N with
    | true => some (d, guardE c g env)
    | false => none
  | none => none
section
variable {P : Program} {c : Code} {K : Act → World → Prop} {Q : Exit → Act → World → Prop} {a : Act} {w w0 : World} {S : Nat → Prop} {L : List Res} {k : Nat} {N : FN} {env : Env}
theorem From_ld (d : Option Nat) (ad : Addr) (hF : Fr a N env) (hk : ldE P c N env k = some (d, ad)) (v : Value) (hc : w.cell? ad = some v)
    (h : ∀ a', Fr a' N (putE env d v) → From P c K Q (k + 1) a' w) : From P c K Q k a w := by
  unfold ldE at hk
  split at hk
  · rename_i h0
    split at hk
    · rename_i h1 h2 h3 h4
      simp only [Option.some.injEq, Prod.mk.injEq] at hk
      obtain ⟨rfl, rfl⟩ := hk
      exact From_load1 h0 hF h1 h2 rfl h4 h3 hc (fun a' _ => h a')
    · cases hk
  · cases hk
theorem From_ls (d : Option Nat) (ad : Addr) (vs : List Value) (hF : Fr a N env) (hk : lsE P c N env k = some (d, ad, some vs.length)) (hc : ∀ j v, vs[j]? = some v → w.cell? (ad.add j) = some v)
    (h : ∀ a', Fr a' N (putE env d (.agg vs.toArray)) → From P c K Q (k + 1) a' w) : From P c K Q k a w := by
  unfold lsE at hk
  split at hk
  · rename_i h0
    split at hk
    · rename_i h1 h2 h4
      simp only [Option.some.injEq, Prod.mk.injEq] at hk
      obtain ⟨rfl, rfl, h3⟩ := hk
      exact From_loadS h0 hF h1 h2 rfl h4 h3 hc (fun a' _ => h a')
    · cases hk
  · cases hk
theorem From_ix (d : Option Nat) (ad : Addr) (n size : Nat) (i : Int) (hF : Fr a N env) (hk : ixE P c N env k = some (d, some ad, n, size, i)) (h0 : 0 ≤ i) (h1 : i < n)
    (h : ∀ a', Fr a' N (putE env d (.pointer (some (ad.add (i.toNat * size))))) → From P c K Q (k + 1) a' w) : From P c K Q k a w := by
  unfold ixE at hk
  split at hk
  · rename_i g0
    split at hk
    · rename_i g1 g2 g3 g4
      split at hk
      · rename_i e ht
        split at hk
        · rename_i inf hs
          simp only [Option.some.injEq, Prod.mk.injEq] at hk
          obtain ⟨rfl, hA, rfl, rfl, rfl⟩ := hk
          exact From_index g0 hF g1 g2 rfl g3 g4 hA ht (by rw [hs]; rfl) h0 h1 (fun a' _ => h a')
        · cases hk
      · cases hk
    · cases hk
  · cases hk
theorem From_ar (d : Option Nat) (z : Int) (hF : Fr a N env) {z0 : Int} (hk : arE c N env k = some (d, z0)) (hz : z0 = z) (h1 : -9223372036854775808 ≤ z) (h2 : z ≤ 9223372036854775807)
    (h : ∀ a', Fr a' N (putE env d (.int .i64 z)) → From P c K Q (k + 1) a' w) : From P c K Q k a w := by
  subst hz
  unfold arE at hk
  split at hk
  · rename_i g0
    split at hk
    · rename_i g1 g2 g3 g4
      split at hk
      · rename_i z hz
        simp only [Option.some.injEq, Prod.mk.injEq] at hk
        obtain ⟨rfl, rfl⟩ := hk
        exact From_arith g0 hF g1 g2 rfl g3 g4 hz h1 h2 (fun a' _ => h a')
      · cases hk
    · cases hk
  · cases hk
theorem From_cl (d : Option Nat) (f : FuncId) (vs : List Value) (hF : Fr a N env) (hk : clE P c N env k = some (d, f, vs.toArray)) {Φ : Value → World → Prop} (hc : Calls P f vs.toArray w (Ret Φ))
    (h : ∀ v w', Φ v w' → ∀ a', Fr a' N (putE env d v) → From P c K Q (k + 1) a' w') : From P c K Q k a w := by
  unfold clE at hk
  split at hk
  · rename_i d' x args ts ty g g0
    split at hk
    · rename_i f' first cap us g1 g2 g3 g4
      split at hk
      · rename_i hs hf
        simp only [Option.some.injEq, Prod.mk.injEq] at hk
        obtain ⟨rfl, rfl, hv⟩ := hk
        have hfirst : first = #[] := Array.eq_empty_of_size_eq_zero hs
        subst hfirst
        exact From_call g0 hF g1 g2 rfl (f := f') (vs := us) (cap := cap.toList) (by simpa using g3) g4 hf (by rw [hv]; exact hc) (fun v w' hv a' _ => h v w' hv a')
      · cases hk
    · cases hk
  · cases hk
theorem From_either {B : Bool} {d : Option Nat} (v : Value) (hF : Fr a N env) (hg : gdE c N env k = some (d, some B)) (hr : B = true → (∀ a', Fr a' N (putE env d v) → From P c K Q (k + 1) a' w) → From P c K Q k a w)
    (h : ∀ a', Fr a' N (putE env d (cond B v undef)) → From P c K Q (k + 1) a' w) : From P c K Q k a w := by
  cases B with
  | true => exact hr rfl h
  | false =>
    unfold gdE at hg
    split at hg
    · rename_i h0
      split at hg
      · rename_i hd
        simp only [Option.some.injEq, Prod.mk.injEq] at hg
        obtain ⟨rfl, hg⟩ := hg
        exact From_skip h0 hF hg (h _ (hF.put hd undef))
      · cases hg
    · cases hg
theorem From_eitherC {B : Bool} {d : Option Nat} (v : Value) (hF : Fr a N env) (hg : gdE c N env k = some (d, some B))
    (hr : B = true → (∀ a' w', Mem noS w w' [] → Fr a' N (putE env d v) → From P c K Q (k + 1) a' w') → From P c K Q k a w)
    (h : ∀ a' w', Mem noS w w' [] → Fr a' N (putE env d (cond B v undef)) → From P c K Q (k + 1) a' w') : From P c K Q k a w := by
  cases B with
  | true => exact hr rfl h
  | false =>
    unfold gdE at hg
    split at hg
    · rename_i h0
      split at hg
      · rename_i hd
        simp only [Option.some.injEq, Prod.mk.injEq] at hg
        obtain ⟨rfl, hg⟩ := hg
        exact From_skip h0 hF hg (h _ _ (Mem.init w) (hF.put hd undef))
      · cases hg
    · cases hg
theorem notT (b : Bool) : ((!b) = true) = (¬ b = true) := by cases b <;> simp
end
end Go.Mor
namespace Go.Mor
open Go.RowKit
theorem From_unI {P : Program} {c : Code} {K : Act → World → Prop} {Q : Exit → Act → World → Prop} {a : Act} {w : World} {k k' : Nat} {N : FN} {env : Env} {d : Option Nat} {ty : Nat} {g : Option (Nat × Bool)}
    {op : UnOp} {t : TypeId} {x : Operand} (hk : coreAt c k = some (d, .unOp op t x, ty, g)) (hF : Fr a N env) (hg : guardE c g env = some true) (hd : okd d N = true) (hk' : k + 1 = k')
    {kd : IntKind} {i : Int} {z : Value} (hx : ev env x = some (.int kd i)) (hb : ∀ w, (Op.unary op (.int kd i)).run P w = .ok z w)
    (h : ∀ a', a' = a.put d z → Fr a' N (putE env d z) → From P c K Q k' a' w) : From P c K Q k a w := by
  refine From_same hk hF hg hd hk' (fun o ho => ?_) h
  unfold execOp
  rw [ho]
  simp only [hF.ev hx, Sem.run_bind, hb, Result.andThen_ok]
  rfl
end Go.Mor
namespace Go.Mor
open Go.RowKit
section
variable {P : Program} {c : Code} {K : Act → World → Prop} {Q : Exit → Act → World → Prop} {a : Act} {w : World}
theorem W_condP {t : Nat} {N : FN} {env : Env} {e : Bool} {R : Prop} (hk : kind c = .cond (.tmp t)) (hF : Fr a N env) (hv : look env t = some (.bool e)) (i : e = true ↔ R)
    (ht : R → W P (Code.l c) K Q a w) (hf : ¬ R → W P (Code.r c) K Q a w) : W P c K Q a w :=
  W_cond hk hF hv (fun h => ht (i.1 h)) (fun h => hf (fun r => by rw [i.2 r] at h; cases h))
end
end Go.Mor
namespace Go.Mor
open Go.RowKit
section
variable {P : Program} {c : Code} {K : Act → World → Prop} {Q : Exit → Act → World → Prop} {a : Act} {w : World}
theorem W_sr (h1 : (match kind c, kind (Code.l c) with | .seq, .region false => true | _, _ => false) = true) (h : From P (Code.l c) (fun a w => W P (Code.r c) K Q a w) Q 0 a w) : W P c K Q a w := by
  split at h1
  · rename_i e1 e2
    exact W_seq e1 (W_region e2 h)
  · cases h1
end
end Go.Mor
namespace Go.Mor
open Go.RowKit
def Res.all (l : List Res) : Res where
  fp := fun k => ∃ r, r ∈ l ∧ r.fp k
  holds w := ∀ r, r ∈ l → r.holds w
  stable := fun h hw r hr => r.stable (fun k hk => h k ⟨r, hr, hk⟩) (hw r hr)
  lt := fun hw ⟨r, hr, hk⟩ => r.lt (hw r hr) hk
theorem RO.sub {S : Nat → Prop} {w : World} {l : List Res} {r : Res} (h : RO S w (.all l)) (hr : r ∈ l) : RO S w r :=
  ⟨h.1 r hr, fun g hg => h.2 g ⟨r, hr, hg⟩⟩
structure FPhi where
  dst : Int
  A : Option Addr
  c : Nat
  args : List Int
structure FIns where
  op : Int
  dst : Int
  n : Int
  name : ByteArray
  A : Option Addr
  c : Nat
  args : List Int
structure FBlk where
  pA : Option Addr
  pc : Nat
  phis : List FPhi
  iA : Option Addr
  ic : Nat
  insts : List FIns
  e : Int
  v : Int
  a : Int
  b : Int
def FBlk.sb (x : FBlk) : SB := ⟨x.pA, x.phis.length, x.pc, x.iA, x.insts.length, x.ic, x.e, x.v, x.a, x.b⟩
def bsOf (fs : List FBlk) : List SB := fs.map FBlk.sb
section
variable {S : Nat → Prop} {w : World} {A : Option Addr} {fs : List FBlk}
end
theorem rds_cells {w : World} {A : Option Addr} {size : Nat} {css : List (List Value)} {ad : Addr} (h : (Res.rds A size css).holds w) (hA : A = some ad) {i : Nat} {cs : List Value} (hi : css[i]? = some cs) :
    ∀ j v, cs[j]? = some v → w.cell? ((ad.add (i * size)).add j) = some v := rds_get h hA hi
def In64 (n : Int) : Prop := -9223372036854775808 ≤ n ∧ n ≤ 9223372036854775807
def LenOk (n : Nat) : Prop := n ≤ 281474976710656
theorem get_of {α : Type} {l : List α} {i : Nat} (h : i < l.length) : ∃ x, l[i]? = some x := ⟨_, List.getElem?_eq_getElem h⟩
abbrev fA (nm : ByteArray) (wk : Bool) (pa va : Int) (A : Option Addr) (c : Nat) (fs : List FBlk) : Value := .agg #[.string nm, .bool wk, .int .i64 pa, .int .i64 va, .slice A (bsOf fs).length c]
end Go.Mor
namespace Go.Mor
def greatTo (fs : List FBlk) (k : Nat) : Nat := ((fs.take k).map (fun x => min x.phis.length 5000 + min x.insts.length 5000)).sum
def greatQ (va : Int) (fs : List FBlk) : Prop := ((60 < fs.length ∨ 3000 < va) ∧ (va ≤ 20000 ∨ 60 < fs.length)) ∨ (¬ (60 < fs.length ∨ 3000 < va) ∧ 3000 < greatTo fs fs.length)
instance (va : Int) (fs : List FBlk) : Decidable (greatQ va fs) := by unfold greatQ; infer_instance
def truthI (b : Bool) : Int := cond b 1 0
theorem bool_dec {b : Bool} {P R : Prop} [Decidable R] (h : b = true ↔ P) (e : P ↔ R) : Value.bool b = Value.bool (decide R) := by
  congr 1
  rw [Bool.eq_iff_iff, decide_eq_true_eq]
  exact h.trans e
theorem seq_nil (s : ByteArray) : ((s.toList == (⟨#[]⟩ : ByteArray).toList) = true) = (s.size = 0) := by
  rw [beq_iff_eq, ByteArray.toList_eq, ByteArray.toList_eq]
  apply propext
  constructor
  · intro h
    have h1 := congrArg List.length h
    have e : s.data.toList.length = s.size := Array.length_toList
    rw [e] at h1
    exact h1
  · intro h
    have h2 : s.data = #[] := Array.eq_empty_of_size_eq_zero h
    rw [h2]
def nameQ (s : ByteArray) : Prop := 1 ≤ s.size ∧ s.size ≤ 60
instance (s : ByteArray) : Decidable (nameQ s) := by unfold nameQ; infer_instance
def makesQ (op : Int) : Prop := op ≠ 3 ∧ op ≠ 10 ∧ op ≠ 11
instance (op : Int) : Decidable (makesQ op) := by unfold makesQ; infer_instance
def codeQ (n : Int) : Prop := 1 ≤ n ∧ n ≤ 999
instance (n : Int) : Decidable (codeQ n) := by unfold codeQ; infer_instance
def placeQ (n : Int) : Prop := 0 ≤ n ∧ n ≤ 2147483647
instance (n : Int) : Decidable (placeQ n) := by unfold placeQ; infer_instance
def endsQ (N : Int) (x : FBlk) : Prop :=
  (x.e = 0 ∧ (0 ≤ x.a ∧ x.a < N) ∧ x.v = 0 ∧ x.b = 0) ∨ (x.e = 1 ∧ (0 ≤ x.a ∧ x.a < N) ∧ (0 ≤ x.b ∧ x.b < N) ∧ x.a ≠ x.b) ∨ (x.e = 2 ∧ x.a = 0 ∧ x.b = 0) ∨ (x.e = 3 ∧ codeQ x.a ∧ x.v = 0 ∧ x.b = 0)
instance (N : Int) (x : FBlk) : Decidable (endsQ N x) := by unfold endsQ; infer_instance
def endsS (N : Int) (x : FBlk) : Prop := endsQ N x ∧ (x.e = 2 → -1 ≤ x.v)
instance (N : Int) (x : FBlk) : Decidable (endsS N x) := by unfold endsS; infer_instance
def shapeQ (i : FIns) : Prop := (makesQ i.op ∨ i.dst = -1) ∧
  ((i.op = 1 ∧ i.name.size = 0 ∧ i.args.length = 0) ∨
  (i.op = 2 ∧ placeQ i.n ∧ i.name.size = 0 ∧ i.args.length = 1) ∨
  (i.op = 3 ∧ placeQ i.n ∧ i.name.size = 0 ∧ i.args.length = 2) ∨
  (i.op = 4 ∧ i.n = 0 ∧ nameQ i.name ∧ i.args.length ≤ 16) ∨
  (i.op = 5 ∧ i.n = 0 ∧ i.name.size = 0 ∧ 1 ≤ i.args.length ∧ i.args.length ≤ 17) ∨
  ((i.op = 6 ∨ i.op = 7) ∧ i.n = 0 ∧ nameQ i.name ∧ i.args.length = 0) ∨
  ((i.op = 8 ∨ i.op = 10 ∨ i.op = 12) ∧ i.n = 0 ∧ i.name.size = 0 ∧ i.args.length = 1) ∨
  (i.op = 9 ∧ i.n = 0 ∧ i.name.size = 0 ∧ i.args.length = 0) ∨
  (i.op = 11 ∧ codeQ i.n ∧ i.name.size = 0 ∧ i.args.length = 1) ∨
  ((17 ≤ i.op ∧ i.op ≤ 32) ∧ i.n = 0 ∧ i.name.size = 0 ∧ i.args.length = 2) ∨
  ((41 ≤ i.op ∧ i.op ≤ 43) ∧ i.n = 0 ∧ i.name.size = 0 ∧ i.args.length = 1))
instance (i : FIns) : Decidable (shapeQ i) := by unfold shapeQ; infer_instance
end Go.Mor
namespace Go.Mor
open Go.RowKit
section
variable {P : Program} {c : Code} {K : Act → World → Prop} {Q : Exit → Act → World → Prop} {a : Act} {w w0 : World} {S : Nat → Prop} {L : List Res} {k k' : Nat} {N : FN} {env : Env}
variable {d : Option Nat} {ty : Nat} {g : Option (Nat × Bool)}
theorem addr_add (a : Addr) (i j : Nat) : (a.add i).add j = a.add (i + j) := by
  unfold Addr.add
  by_cases hi : i = 0 <;> by_cases hj : j = 0 <;> simp [hi, hj, Nat.add_assoc]
def setAt : List Value → Nat → List Value → List Value
  | xs, _, [] => xs
  | xs, j, v :: vs => setAt (xs.set j v) (j + 1) vs
theorem storeCells_rowS {e size n cap : Nat} {ad ad' : Addr} : ∀ (vs : List Value) (i j : Nat) {xs : List Value} {w : World}, (∀ v ∈ vs, v.oneCell' = true) → (Res.row e size (some ad) n cap xs).holds w → ad'.add i = ad.add j → ad'.add 0 = ad' → (∀ q, ad'.add (i + q) = ad.add (j + q)) → j + vs.length ≤ n * size →
    ∃ w', (storeCells ad' vs i).run P w = .ok () w' ∧ Mem (Res.row e size (some ad) n cap xs).fp w w' [.row e size (some ad) n cap (setAt xs j vs)]
  | [], i, j, xs, w, _, hb, _, _, _, _ => ⟨w, by simp [storeCells], by simpa [setAt] using Mem.initS hb⟩
  | v :: vs, i, j, xs, w, h1, hb, he, h0, hq, hl => by
    simp only [List.length_cons] at hl
    have hm := Mem.set_row (j := j) hb v
    have hb' := hm.get 0 rfl
    obtain ⟨w', hr, hm'⟩ := storeCells_rowS vs (i + 1) (j + 1) (fun u hu => h1 u (List.mem_cons_of_mem _ hu)) hb' (hq 1) h0 (fun q => by have := hq (1 + q); rwa [← Nat.add_assoc, ← Nat.add_assoc] at this) (by omega)
    refine ⟨w', ?_, ?_⟩
    · have hxl : xs.length = n * size := hb.1
      obtain ⟨u, hu⟩ : ∃ u, xs[j]? = some u := ⟨_, List.getElem?_eq_getElem (by omega)⟩
      obtain ⟨a0, ha0, hcell⟩ := row_rd hb j u hu
      injection ha0 with ha0
      subst ha0
      have hst : (store (ad.add j) v).run P w = .ok () (w.setCell (ad.add j) v) := by rw [run_store P w _ v .plain (h1 v (List.mem_cons_self ..)), hcell]; simp [row_frozen hb]
      simp only [storeCells, Sem.run_bind, he, hst, Result.andThen_ok, hr]
    · have := hm.mod 0 rfl hm'
      simpa [setAt] using this
theorem From_storeS_row {t : TypeId} {x y : Operand} (hk : coreAt c k = some (d, .store t x y, ty, g)) (hF : Fr a N env) (hg : guardE c g env = some true) (hd : okd d N = true) (hk' : k + 1 = k')
    {ad ad' : Addr} {j e size n cap : Nat} {vs xs : List Value} (hx : ev env x = some (.pointer (some ad'))) (had : ad' = ad.add j) (hy : ev env y = some (.agg vs.toArray)) (ht : aggT P t = some vs.length) (hv : ∀ v ∈ vs, v.oneCell' = true) (hM : Mem S w0 w L)
    (i : Nat) (hi : L[i]? = some (.row e size (some ad) n cap xs)) (hj : j + vs.length ≤ n * size)
    (h : ∀ w', Mem S w0 w' (L.set i (.row e size (some ad) n cap (setAt xs j vs))) → Mem (Res.row e size (some ad) n cap xs).fp w w' [.row e size (some ad) n cap (setAt xs j vs)] → ∀ a', a' = a.put d undef → Fr a' N (putE env d undef) → From P c K Q k' a' w') : From P c K Q k a w := by
  subst hk'
  subst had
  have hb := hM.get i hi
  obtain ⟨w', hr, hm⟩ := storeCells_rowS (P := P) (ad' := ad.add j) vs 0 j hv hb (by rw [addr_add]; rfl) (by rw [addr_add]; rfl) (fun q => by rw [addr_add, Nat.zero_add]) hj
  refine From_unit hk hF hg (w' := w') (fun o ho' => ?_) (h _ (by simpa using hM.mod i hi hm) hm _ rfl (hF.put hd _))
  unfold execOp
  rw [ho']
  simp [Instr.storeAt, Instr.sureAddr, hF.ev hx, hF.ev hy, storeVar, (isAgg_agg ht w).2, Value.cells, hr]
end
end Go.Mor
namespace Go.Mor
open Go.RowKit
theorem From_ixA {P : Program} {c : Code} {K : Act → World → Prop} {Q : Exit → Act → World → Prop} {a : Act} {w : World} {k : Nat} {N : FN} {env : Env} (d : Option Nat) (A : Option Addr) (ad : Addr) (n size : Nat) (i : Int) (hF : Fr a N env) (hk : ixE P c N env k = some (d, A, n, size, i)) (hA : A = some ad) (h0 : 0 ≤ i) (h1 : i < n)
    (h : ∀ a', Fr a' N (putE env d (.pointer (some (ad.add (i.toNat * size))))) → From P c K Q (k + 1) a' w) : From P c K Q k a w :=
  From_ix d ad n size i hF (by rw [hk, hA]) h0 h1 h
end Go.Mor
namespace Go.Mor
open Go.RowKit
end Go.Mor
namespace Go.Mor
open Go.RowKit
section
variable {P : Program} {c : Code} {K : Act → World → Prop} {Q : Exit → Act → World → Prop} {a : Act} {w w0 : World} {S : Nat → Prop} {L : List Res} {k k' : Nat} {N : FN} {env : Env}
variable {d : Option Nat} {ty : Nat} {g : Option (Nat × Bool)}
theorem From_build0 {t : TypeId} (hk : coreAt c k = some (d, .buildSlice t 0 #[], ty, g)) (hF : Fr a N env) (hg : guardE c g env = some true) (hd : okd d N = true) (hk' : k + 1 = k')
    {e size : Nat} (ht : P.underlying t = some (.slice e)) (hi : (P.info? e).map (fun i => i.size) = some size) (hM : Mem S w0 w L)
    (h : ∀ b w', w0.heap.size ≤ b → w.heap.size ≤ b → Mem S w0 w' (L ++ [.row e size (some ⟨b, 0, none⟩) 0 0 []]) → Mem noS w w' [.row e size (some ⟨b, 0, none⟩) 0 0 []] →
      ∀ a', a' = a.put d (.slice (some ⟨b, 0, none⟩) 0 0) → Fr a' N (putE env d (.slice (some ⟨b, 0, none⟩) 0 0)) → From P c K Q k' a' w') : From P c K Q k a w := by
  subst hk'
  have hrow : (Res.row e size (some ⟨w.heap.size, 0, none⟩) 0 0 []).holds (w.alloc (.cells #[] e)) := by
    have := World.ownsRow_lit (base := 0) (e := e) (size := size) w #[] 0 (Nat.zero_le _) (by simp only [maxLen]; omega) (by simp)
    show World.ownsRow _ _ _ _ _ _ _
    simpa using this
  have hm : Mem noS w (w.alloc (.cells #[] e)) [.row e size (some ⟨w.heap.size, 0, none⟩) 0 0 []] := by
    refine (Mem.alloc w e []).say 0 rfl (fun _ => hrow) ?_
    rintro g' ⟨a', ha', rfl⟩
    injection ha' with ha'
    subst ha'
    rfl
  refine From_val hk hF hg (v := .slice (some ⟨w.heap.size, 0, none⟩) 0 0) (w' := w.alloc (.cells #[] e)) (fun o ho _ => ?_)
    (h w.heap.size (w.alloc (.cells #[] e)) hM.size (Nat.le_refl _) (hM.call hm) hm _ rfl (hF.put hd _))
  unfold execOp
  rw [ho]
  cases hi' : P.info? e with
  | none => simp [hi'] at hi
  | some inf =>
    have hs0 : (sizeOf e).run P w = .ok inf.size w := by simp [sizeOf, typeInfo, hi']
    simp only [List.map_toArray, List.map_nil, Instr.buildSlice, Sem.run_bind, run_underlying ht, hs0, Result.andThen_ok, Nat.zero_mul, Nat.reducePow, gt_iff_lt, Nat.not_lt_zero, if_false, if_true, Sem.run_pure, show Array.range 0 = #[] from rfl, Array.toList_empty, Instr.fill, newRow, run_newObj]
    rfl
end
end Go.Mor
namespace Go.Mor
open Go.RowKit
def putQ (lo hi : Int) (l : List (Int × Int)) (v : Int) : Prop := (lo ≤ v ∧ v < hi) ∧ (l.getD v.toNat (0, 0)).1 < 0
instance (lo hi : Int) (l : List (Int × Int)) (v : Int) : Decidable (putQ lo hi l v) := by unfold putQ; infer_instance
theorem zipIdx_take {α : Type} {l : List α} {k : Nat} {p : α} (h : l[k]? = some p) : (l.take (k + 1)).zipIdx = (l.take k).zipIdx ++ [(p, k)] := by
  obtain ⟨hk, he⟩ := List.getElem?_eq_some_iff.1 h
  rw [List.take_succ_eq_append_getElem hk, he, List.zipIdx_append]
  simp [Nat.min_eq_left (Nat.le_of_lt hk)]
end Go.Mor
namespace Go.Mor
open Go.RowKit
def purE (P : Program) (c : Code) (N : FN) (n k : Nat) (env : Env) : Env := match pureRun P c N n k env with
  | some e => e
  | none => []
def isS {α : Type} : Option α → Bool
  | some _ => true
  | none => false
def keysE : Env → List Nat
  | [] => []
  | (k, _) :: r => k :: keysE r
def condE (c : Code) (env : Env) : Option Value := match kind c with
  | .cond (.tmp t) => look env t
  | _ => none
def szE (c : Code) : Nat := (opsOf c).size
def srE (c : Code) : Bool := match kind c, kind (Code.l c) with | .seq, .region false => true | _, _ => false
def cmE (c : Code) (N : FN) (env : Env) (k : Nat) : Option Bool := match coreAt c k with
  | some (d, .binOp op _ x y _, _, g) => match guardE c g env, okd d N, ev env x, ev env y with
    | some true, true, some (.int kd i), some (.int kd' j) => match decide (kd = kd') with
      | true => cmpI op i j
      | false => none
    | _, _, _, _ => none
  | _ => none
def stE (P : Program) (c : Code) (N : FN) (env : Env) (k : Nat) : Option (Option Nat × Addr × Value) := match coreAt c k with
  | some (d, .store t x y, _, g) => match guardE c g env, okd d N, oneT P t, ev env x, ev env y with
    | some true, true, true, some (.pointer (some ad)), some v => match v.oneCell' with
      | true => some (d, ad, v)
      | false => none
    | _, _, _, _, _ => none
  | _ => none
def rsE (fn : Func) (env : Env) : Option Value := match fn.results.toList with
  | [.tmp t] => look env t
  | _ => none
def rs2E (fn : Func) (env : Env) : Option (Value × Value) := match fn.results.toList with
  | [.tmp t, .tmp u] => match look env t, look env u with
    | some v, some v' => some (v, v')
    | _, _ => none
  | _ => none
section
variable {P : Program} {c : Code} {K : Act → World → Prop} {Q : Exit → Act → World → Prop} {w w0 : World} {S : Nat → Prop} {L : List Res} {k : Nat} {N : FN} {env : Env}
theorem zpn (n : Nat) (h : ∀ a, Fr a N (purE P c N n k env) → From P c K Q (k + n) a w) (hp : isS (pureRun P c N n k env) = true := by kernel_rfl) : ∀ a, Fr a N env → From P c K Q k a w := by
  intro a hF
  unfold purE at h
  cases hr : pureRun P c N n k env with
  | none => rw [hr] at hp; cases hp
  | some e =>
    rw [hr] at h
    exact pure_aux n k hF hr h
theorem zkp (env' : Env) {G : Act → Prop} (h : ∀ a, Fr a N env' → G a) (hk : keepE (keysE env') env = env' := by kernel_rfl) : ∀ a, Fr a N env → G a := fun a hF => h a (hF.keep hk)
theorem zfe (h : ∀ a, Fr a N env → K a w) (hk : coreAt c k = none := by kernel_rfl) : ∀ a, Fr a N env → From P c K Q k a w := fun a hF => From_end hk (h a hF)
theorem zsq (h : ∀ a, Fr a N env → W P (Code.l c) (fun a w => W P (Code.r c) K Q a w) Q a w) (hk : kind c = .seq := by kernel_rfl) : ∀ a, Fr a N env → W P c K Q a w := fun a hF => W_seq hk (h a hF)
theorem zrg (h : ∀ a, Fr a N env → From P c K Q 0 a w) (hk : kind c = .region false := by kernel_rfl) : ∀ a, Fr a N env → W P c K Q a w := fun a hF => W_region hk (h a hF)
theorem zsr (h : ∀ a, Fr a N env → From P (Code.l c) (fun a w => W P (Code.r c) K Q a w) Q 0 a w) (hk : srE c = true := by kernel_rfl) : ∀ a, Fr a N env → W P c K Q a w := fun a hF => W_sr hk (h a hF)
theorem zsp (h : ∀ a, Fr a N (purE P (Code.l c) N (szE (Code.l c)) 0 env) → W P (Code.r c) K Q a w) (hk : srE c = true := by kernel_rfl) (hp : isS (pureRun P (Code.l c) N (szE (Code.l c)) 0 env) = true := by kernel_rfl) :
    ∀ a, Fr a N env → W P c K Q a w := by
  refine zsr (zpn _ (fun a hF => From_end ?_ (h a hF)) hp) hk
  simp [coreAt, szE]
theorem zrp (h : ∀ a, Fr a N (purE P c N (szE c) 0 env) → K a w) (hk : kind c = .region false := by kernel_rfl) (hp : isS (pureRun P c N (szE c) 0 env) = true := by kernel_rfl) :
    ∀ a, Fr a N env → W P c K Q a w := by
  refine zrg (zpn _ (fun a hF => From_end ?_ (h a hF)) hp) hk
  simp [coreAt, szE]
theorem zsk (h : ∀ a, Fr a N env → K a w) (hk : kind c = .skip := by kernel_rfl) : ∀ a, Fr a N env → W P c K Q a w := fun a hF => W_skip hk (h a hF)
theorem zre (h : ∀ a, Fr a N env → Q .ret a w) (hk : kind c = .ret := by kernel_rfl) : ∀ a, Fr a N env → W P c K Q a w := fun a hF => W_ret hk (h a hF)
theorem zex (id : Nat) (h : ∀ a, Fr a N env → Q (.exit id) a w) (hk : kind c = .exit id := by kernel_rfl) : ∀ a, Fr a N env → W P c K Q a w := fun a hF => W_exit hk (h a hF)
theorem zbk (id : Nat) (h : ∀ a, Fr a N env → W P (Code.l c) K (inB id K Q) a w) (hk : kind c = .block id := by kernel_rfl) : ∀ a, Fr a N env → W P c K Q a w := fun a hF => W_block hk (h a hF)
theorem zbr {id : Nat} (h : ∀ a, Fr a N env → Q .ret a w) : ∀ a, Fr a N env → inB id K Q .ret a w := h
theorem zbh {id id' : Nat} (h : ∀ a, Fr a N env → K a w) (e : Nat.beq id' id = true := by rfl) : ∀ a, Fr a N env → inB id K Q (.exit id') a w := fun a hF => inB_hit e (h a hF)
theorem zbm {id id' : Nat} (h : ∀ a, Fr a N env → Q (.exit id') a w) (e : Nat.beq id' id = false := by rfl) : ∀ a, Fr a N env → inB id K Q (.exit id') a w := fun a hF => inB_miss e (h a hF)
theorem cond_spec {v : Value} (h : condE c env = some v) : ∃ t, kind c = .cond (.tmp t) ∧ look env t = some v := by
  unfold condE at h
  split at h
  · rename_i t ht; exact ⟨t, ht, h⟩
  · cases h
theorem zcT (h : ∀ a, Fr a N env → W P (Code.l c) K Q a w) (hk : condE c env = some (.bool true) := by kernel_rfl) : ∀ a, Fr a N env → W P c K Q a w := fun a hF => by
  obtain ⟨t, h1, h2⟩ := cond_spec hk
  exact W_cond h1 hF h2 (fun _ => h a hF) (fun h => Bool.noConfusion h)
theorem zcF (h : ∀ a, Fr a N env → W P (Code.r c) K Q a w) (hk : condE c env = some (.bool false) := by kernel_rfl) : ∀ a, Fr a N env → W P c K Q a w := fun a hF => by
  obtain ⟨t, h1, h2⟩ := cond_spec hk
  exact W_cond h1 hF h2 (fun h => Bool.noConfusion h) (fun _ => h a hF)
theorem zcP (e : Bool) (R : Prop) (i : e = true ↔ R) (ht : R → ∀ a, Fr a N env → W P (Code.l c) K Q a w) (hf : ¬ R → ∀ a, Fr a N env → W P (Code.r c) K Q a w) (hk : condE c env = some (.bool e) := by kernel_rfl) :
    ∀ a, Fr a N env → W P c K Q a w := fun a hF => by
  obtain ⟨t, h1, h2⟩ := cond_spec hk
  exact W_condP h1 hF h2 i (fun r => ht r a hF) (fun r => hf r a hF)
theorem zcD (R : Prop) [Decidable R] (ht : R → ∀ a, Fr a N env → W P (Code.l c) K Q a w) (hf : ¬ R → ∀ a, Fr a N env → W P (Code.r c) K Q a w) (hk : condE c env = some (.bool (decide R)) := by kernel_rfl) :
    ∀ a, Fr a N env → W P c K Q a w := zcP (decide R) R decide_eq_true_iff ht hf hk
theorem zld (ad : Addr) (v : Value) (hc : w.cell? ad = some v) (h : ∀ a, Fr a N (putE env (dstAt c k) v) → From P c K Q (k + 1) a w) (hk : ldE P c N env k = some (dstAt c k, ad) := by kernel_rfl) :
    ∀ a, Fr a N env → From P c K Q k a w := fun _ hF => From_ld _ ad hF hk v hc h
theorem zls (ad : Addr) (vs : List Value) (hc : ∀ j v, vs[j]? = some v → w.cell? (ad.add j) = some v) (h : ∀ a, Fr a N (putE env (dstAt c k) (.agg vs.toArray)) → From P c K Q (k + 1) a w)
    (hk : lsE P c N env k = some (dstAt c k, ad, some vs.length) := by kernel_rfl) : ∀ a, Fr a N env → From P c K Q k a w := fun _ hF => From_ls _ ad vs hF hk hc h
theorem zix (ad : Addr) (n size : Nat) (i : Int) (h : ∀ a, Fr a N (putE env (dstAt c k) (.pointer (some (ad.add (i.toNat * size))))) → From P c K Q (k + 1) a w) (h0 : 0 ≤ i := by omega) (h1 : i < n := by omega)
    (hk : ixE P c N env k = some (dstAt c k, some ad, n, size, i) := by kernel_rfl) : ∀ a, Fr a N env → From P c K Q k a w := fun _ hF => From_ix _ ad n size i hF hk h0 h1 h
theorem zar (z : Int) (h : ∀ a, Fr a N (putE env (dstAt c k) (.int .i64 z)) → From P c K Q (k + 1) a w) (h1 : -9223372036854775808 ≤ z := by omega) (h2 : z ≤ 9223372036854775807 := by omega)
    (hk : arE c N env k = some (dstAt c k, z) := by kernel_rfl) : ∀ a, Fr a N env → From P c K Q k a w := fun _ hF => From_ar _ z hF hk rfl h1 h2 h
theorem cm_spec {b : Bool} (h : cmE c N env k = some b) : ∃ d op t x y t' ty g kd i j, coreAt c k = some (d, .binOp op t x y t', ty, g) ∧ guardE c g env = some true ∧ okd d N = true ∧ ev env x = some (.int kd i) ∧ ev env y = some (.int kd j) ∧ cmpI op i j = some b := by
  unfold cmE at h
  split at h
  · rename_i h0
    split at h
    · rename_i h1 h2 h3 h4
      split at h
      · rename_i h5
        have := of_decide_eq_true h5
        subst this
        exact ⟨_, _, _, _, _, _, _, _, _, _, _, h0, h1, h2, h3, h4, h⟩
      · cases h
    · cases h
  · cases h
theorem zcl {f : FuncId} {vs : Array Value} {Φ : Value → World → Prop} (hc : Calls P f vs w (Ret Φ)) (h : ∀ v w', Φ v w' → ∀ a, Fr a N (putE env (dstAt c k) v) → From P c K Q (k + 1) a w')
    (hk : clE P c N env k = some (dstAt c k, f, vs) := by kernel_rfl) : ∀ a, Fr a N env → From P c K Q k a w := fun _ hF => From_cl _ f vs.toList hF hk hc h
theorem st_spec {d : Option Nat} {ad : Addr} {v : Value} (h : stE P c N env k = some (d, ad, v)) : ∃ t x y ty g, coreAt c k = some (d, .store t x y, ty, g) ∧ guardE c g env = some true ∧ okd d N = true ∧ oneT P t = true ∧
    ev env x = some (.pointer (some ad)) ∧ ev env y = some v ∧ v.oneCell' = true := by
  unfold stE at h
  split at h
  · rename_i h0
    split at h
    · rename_i h1 h2 h3 h4 h5
      split at h
      · rename_i h6
        simp only [Option.some.injEq, Prod.mk.injEq] at h
        obtain ⟨rfl, rfl, rfl⟩ := h
        exact ⟨_, _, _, _, _, h0, h1, h2, h3, h4, h5, h6⟩
      · cases h
    · cases h
  · cases h
theorem zsb (hM : Mem S w0 w L) (i : Nat) (off : Nat) (v : Value) {b t0 : Nat} {cs : List Value} (hi : L[i]? = some (.blk b t0 cs)) (h : ∀ w', Mem S w0 w' (L.set i (.blk b t0 (cs.set off v))) → ∀ a, Fr a N (putE env (dstAt c k) undef) → From P c K Q (k + 1) a w')
    (ho : off < cs.length := by decide) (hk : stE P c N env k = some (dstAt c k, ⟨b, off, none⟩, v) := by kernel_rfl) : ∀ a, Fr a N env → From P c K Q k a w := fun a hF => by
  obtain ⟨t, x, y, ty, g, h0, h1, h2, h3, h4, h5, h6⟩ := st_spec hk
  exact From_store_blk h0 hF h1 h2 rfl h4 h5 h3 h6 hM i hi ho (fun w' hM' _ a' _ => h w' hM' a')
theorem zsw (hM : Mem S w0 w L) (i : Nat) (ad' : Addr) (j : Nat) (v : Value) {e size n cap : Nat} {ad : Addr} {xs : List Value} (hi : L[i]? = some (.row e size (some ad) n cap xs)) (had : ad' = ad.add j) (hj : j < n * size)
    (h : ∀ w', Mem S w0 w' (L.set i (.row e size (some ad) n cap (xs.set j v))) → ∀ a, Fr a N (putE env (dstAt c k) undef) → From P c K Q (k + 1) a w')
    (hk : stE P c N env k = some (dstAt c k, ad', v) := by kernel_rfl) : ∀ a, Fr a N env → From P c K Q k a w := fun a hF => by
  obtain ⟨t, x, y, ty, g, h0, h1, h2, h3, h4, h5, h6⟩ := st_spec hk
  exact From_store_row h0 hF h1 h2 rfl h4 had h5 h3 h6 hM i hi hj (fun w' hM' _ a' _ => h w' hM' a')
end
section
variable {P : Program} {w : World} {N : FN} {env : Env} {fn : Func} {Φ : Value → World → Prop}
theorem zo1 (v : Value) (h : Φ v w) (hk : rsE fn env = some v := by kernel_rfl) (hD : N.D = [] := by rfl) : ∀ a, Fr a N env → bodyPost P fn (Ret Φ) .ret a w := fun a hF => by
  unfold rsE at hk
  split at hk
  · rename_i t ht
    exact out1 hF (by apply Array.ext'; simpa using ht) hk ⟨v, rfl, h⟩ hD
  · cases hk
theorem zo2 (v v' : Value) (h : Φ (.tuple #[v, v']) w) (hk : rs2E fn env = some (v, v') := by kernel_rfl) (hD : N.D = [] := by rfl) : ∀ a, Fr a N env → bodyPost P fn (Ret Φ) .ret a w := fun a hF => by
  unfold rs2E at hk
  split at hk
  · rename_i t u ht
    split at hk
    · rename_i h1 h2
      simp only [Option.some.injEq, Prod.mk.injEq] at hk
      obtain ⟨rfl, rfl⟩ := hk
      exact out2 hF (by apply Array.ext'; simpa using ht) h1 h2 ⟨_, rfl, h⟩ hD
    · cases hk
  · cases hk
theorem zo0 (h : Φ (.tuple #[]) w) (hk : fn.results = #[] := by rfl) (hD : N.D = [] := by rfl) : ∀ a, Fr a N env → bodyPost P fn (Ret Φ) .normal a w := fun _ hF => out0 hF hk ⟨_, rfl, h⟩ hD
theorem zen {f : FuncId} (N : FN) (vs : List Value) (hf : P.funcs[f]? = some fn) (h : ∀ a, Fr a N (argE 0 vs) → W P (bodyOf fn) (bodyPost P fn (Ret Φ) .normal) (bodyPost P fn (Ret Φ)) a w)
    (hb : fn.body.isSome = true := by kernel_rfl) (hn : Nat.beq fn.ntmps N.n = true := by kernel_rfl) (hl : Nat.ble vs.length N.n = true := by kernel_rfl) (hD : N.D = [] := by rfl) : Calls P f vs.toArray w (Ret Φ) := enter hf hb hn hl h hD
end
def dvE : Spec → Option Value
  | .det u => some u
  | _ => none
def p1E (P : Program) (c : Code) (N : FN) (i : Nat) (env : Env) : Option Value := match coreAt c i with
  | some (d, op, _, g) => match guardE c g env, okd d N with
    | some true, true => pureOp P env op
    | _, _ => none
  | none => none
def gtE (c : Code) (i : Nat) (env : Env) : Option Bool := match coreAt c i with
  | some (_, _, _, g) => guardE c g env
  | none => none
theorem gt_spec {c : Code} {i : Nat} {env : Env} {b : Bool} (h : gtE c i env = some b) : ∀ g, (coreAt c i).map (·.2.2.2) = some g → guardE c g env = some b := by
  intro g hg
  unfold gtE at h
  split at h
  · rename_i h0
    rw [h0] at hg
    simp only [Option.map_some, Option.some.injEq] at hg
    subst hg
    exact h
  · cases h
theorem look_app_left {E F : Env} {t : Nat} {v : Value} (h : look E t = some v) : look (E ++ F) t = some v := by
  induction E with
  | nil => cases h
  | cons x r ih =>
    obtain ⟨k, u⟩ := x
    simp only [List.cons_append, look] at h ⊢
    cases hq : Nat.beq k t with
    | true => rw [hq] at h; exact h
    | false => rw [hq] at h; exact ih h
section
variable {P : Program} {c : Code} {Q : Exit → Act → World → Prop} {N : FN} {i : Nat} {env0 : Env} {wr : World} {sp : Nat → Spec}
theorem Fr.left {a : Act} {E F : Env} (h : Fr a N (E ++ F)) : Fr a N E := ⟨h.defers, h.size, fun t v hv => h.slot t v (look_app_left hv)⟩
theorem guard_left {g : Option (Nat × Bool)} {E F : Env} {b : Bool} (h : guardE c g E = some b) : guardE c g (E ++ F) = some b := by
  unfold guardE at h ⊢
  cases g with
  | none => exact h
  | some p =>
    obtain ⟨j, want⟩ := p
    simp only at h ⊢
    cases hd : ((opsOf c)[j]?).bind (·.dst) with
    | none => rw [hd] at h; cases h
    | some d =>
      rw [hd] at h
      simp only at h ⊢
      cases hl : look E d with
      | none => rw [hl] at h; cases h
      | some v =>
        rw [hl] at h
        rw [look_app_left hl]
        exact h
theorem op_of (hg : ∀ vs, gtE c i (predE c i sp vs env0) = some true)
    (h : ∀ (w : World) (vs : Nat → Value), Kp wr w → (∀ j, j ∈ predsOf c i → (sp j).ok (vs j) w) → ∀ a, Fr a N (predE c i sp vs env0) → From P (one c i) (fun a' w' => ∃ v, a' = a.put (dstAt c i) v ∧ Kp w w' ∧ (sp i).ok v w') Q 0 a w) : OpOK P c Q N env0 wr sp i := by
  intro a w vs rest hK hp hF
  exact ⟨true, fun g hg' => guard_left (gt_spec (hg vs) g hg'), fun _ => h w vs hK hp a hF.left, fun h => Bool.noConfusion h⟩
theorem one_at {o : Option Nat × Op × Nat × Option (Nat × Bool)} (h : coreAt c i = some o) : coreAt (one c i) 0 = some (o.1, o.2.1, o.2.2.1, none) ∧ dstAt c i = o.1 := by
  unfold coreAt at h
  cases ho : (opsOf c)[i]? with
  | none => rw [ho] at h; cases h
  | some q =>
    rw [ho] at h
    simp only [Option.map_some, Option.some.injEq] at h
    subst h
    constructor
    · unfold coreAt
      rw [one_core ho]
      rfl
    · simp [dstAt, ho]
theorem one_end {k : Nat} {o : Option Nat × Op × Nat × Option (Nat × Bool)} (h : coreAt c i = some o) : coreAt (one c i) (k + 1) = none := by
  unfold coreAt at h ⊢
  cases ho : (opsOf c)[i]? with
  | none => rw [ho] at h; cases h
  | some q =>
    rw [one_core ho]
    simp
theorem dP (h : ∀ vs, p1E P c N i (predE c i sp vs env0) = dvE (sp i) := by intro _; kernel_rfl) (h2 : isS (dvE (sp i)) = true := by kernel_rfl) : OpOK P c Q N env0 wr sp i := by
  have key : ∀ vs, ∃ d op ty g v, coreAt c i = some (d, op, ty, g) ∧ guardE c g (predE c i sp vs env0) = some true ∧ okd d N = true ∧ pureOp P (predE c i sp vs env0) op = some v ∧ sp i = .det v := by
    intro vs
    have h3 := h vs
    cases hs : sp i with
    | any Φ hh => rw [hs] at h2; cases h2
    | det u =>
      rw [hs] at h3
      unfold p1E dvE at h3
      simp only at h3
      split at h3
      · rename_i h4
        split at h3
        · rename_i h5 h6
          exact ⟨_, _, _, _, u, h4, h5, h6, h3, rfl⟩
        · cases h3
      · cases h3
  refine op_of (fun vs => ?_) (fun w vs hK hp a hF => ?_)
  · obtain ⟨d, op, ty, g, v, h1, h2, _⟩ := key vs
    unfold gtE
    rw [h1]
    exact h2
  · obtain ⟨d, op, ty, g, v, h1, h2, h3, h4, h5⟩ := key vs
    obtain ⟨e1, e2⟩ := one_at h1
    refine From_pure1 e1 hF rfl h3 rfl h4 (fun a' ea _ => From_end (one_end h1) ⟨v, ?_, Kp.refl w, ?_⟩)
    · rw [e2]; exact ea
    · rw [h5]; rfl
theorem ld_spec {k : Nat} {c : Code} {env : Env} {d : Option Nat} {ad : Addr} (hk : ldE P c N env k = some (d, ad)) : ∃ t x ty g, coreAt c k = some (d, .load t x, ty, g) ∧ guardE c g env = some true ∧ okd d N = true ∧ oneT P t = true ∧ ev env x = some (.pointer (some ad)) := by
  unfold ldE at hk
  split at hk
  · rename_i h0
    split at hk
    · rename_i h1 h2 h3 h4
      simp only [Option.some.injEq, Prod.mk.injEq] at hk
      obtain ⟨rfl, rfl⟩ := hk
      exact ⟨_, _, _, _, h0, h1, h2, h3, h4⟩
    · cases hk
  · cases hk
theorem ls_spec {k : Nat} {c : Code} {env : Env} {d : Option Nat} {ad : Addr} {n : Nat} (hk : lsE P c N env k = some (d, ad, some n)) : ∃ t x ty g, coreAt c k = some (d, .load t x, ty, g) ∧ guardE c g env = some true ∧ okd d N = true ∧ aggT P t = some n ∧ ev env x = some (.pointer (some ad)) := by
  unfold lsE at hk
  split at hk
  · rename_i h0
    split at hk
    · rename_i h1 h2 h4
      simp only [Option.some.injEq, Prod.mk.injEq] at hk
      obtain ⟨rfl, rfl, h3⟩ := hk
      exact ⟨_, _, _, _, h0, h1, h2, h3, h4⟩
    · cases hk
  · cases hk
theorem ix_spec {k : Nat} {c : Code} {env : Env} {d : Option Nat} {A : Option Addr} {n size : Nat} {j : Int} (hk : ixE P c N env k = some (d, A, n, size, j)) :
    ∃ t x y ty g cap e kd, coreAt c k = some (d, .indexAddr t x y, ty, g) ∧ guardE c g env = some true ∧ okd d N = true ∧ ev env x = some (.slice A n cap) ∧ ev env y = some (.int kd j) ∧ P.underlying t = some (.slice e) ∧ (P.info? e).map (·.size) = some size := by
  unfold ixE at hk
  split at hk
  · rename_i g0
    split at hk
    · rename_i g1 g2 g3 g4
      split at hk
      · rename_i e ht
        split at hk
        · rename_i inf hs
          simp only [Option.some.injEq, Prod.mk.injEq] at hk
          obtain ⟨rfl, rfl, rfl, rfl, rfl⟩ := hk
          exact ⟨_, _, _, _, _, _, _, _, g0, g1, g2, g3, g4, ht, by rw [hs]; rfl⟩
        · cases hk
      · cases hk
    · cases hk
  · cases hk
theorem ar_spec {k : Nat} {c : Code} {env : Env} {d : Option Nat} {z : Int} (hk : arE c N env k = some (d, z)) :
    ∃ op t x y t' ty g i j, coreAt c k = some (d, .binOp op t x y t', ty, g) ∧ guardE c g env = some true ∧ okd d N = true ∧ ev env x = some (.int .i64 i) ∧ ev env y = some (.int .i64 j) ∧ arI op i j = some z := by
  unfold arE at hk
  split at hk
  · rename_i g0
    split at hk
    · rename_i g1 g2 g3 g4
      split at hk
      · rename_i z hz
        simp only [Option.some.injEq, Prod.mk.injEq] at hk
        obtain ⟨rfl, rfl⟩ := hk
        exact ⟨_, _, _, _, _, _, _, _, _, g0, g1, g2, g3, g4, hz⟩
      · cases hk
    · cases hk
  · cases hk
theorem dL (ad : Addr) (v : Value) (hc : ∀ w', Kp wr w' → w'.cell? ad = some v) (hv : sp i = .det v := by rfl) (hg : ∀ vs, gtE c i (predE c i sp vs env0) = some true := by intro _; kernel_rfl)
    (hk : ∀ vs, ldE P (one c i) N (predE c i sp vs env0) 0 = some (dstAt c i, ad) := by intro _; kernel_rfl) (he : coreAt (one c i) 1 = none := by kernel_rfl) : OpOK P c Q N env0 wr sp i := by
  refine op_of hg (fun w vs hK hp a hF => ?_)
  obtain ⟨t, x, ty, g, h0, h1, h2, h3, h4⟩ := ld_spec (hk vs)
  exact From_load1 h0 hF h1 h2 rfl h4 h3 (hc w hK) (fun a' ea _ => From_end he ⟨v, ea, Kp.refl w, by rw [hv]; rfl⟩)
theorem dS (ad : Addr) (vs : List Value) (hc : ∀ w', Kp wr w' → ∀ j v, vs[j]? = some v → w'.cell? (ad.add j) = some v) (hv : sp i = .det (.agg vs.toArray) := by rfl) (hg : ∀ vs, gtE c i (predE c i sp vs env0) = some true := by intro _; kernel_rfl)
    (hk : ∀ vs', lsE P (one c i) N (predE c i sp vs' env0) 0 = some (dstAt c i, ad, some vs.length) := by intro _; kernel_rfl) (he : coreAt (one c i) 1 = none := by kernel_rfl) : OpOK P c Q N env0 wr sp i := by
  refine op_of hg (fun w vs' hK hp a hF => ?_)
  obtain ⟨t, x, ty, g, h0, h1, h2, h3, h4⟩ := ls_spec (hk vs')
  exact From_loadS h0 hF h1 h2 rfl h4 h3 (hc w hK) (fun a' ea _ => From_end he ⟨_, ea, Kp.refl w, by rw [hv]; rfl⟩)
theorem dI (ad : Addr) (n size : Nat) (j : Int) (h0 : 0 ≤ j := by omega) (h1 : j < n := by omega) (hv : sp i = .det (.pointer (some (ad.add (j.toNat * size)))) := by rfl) (hg : ∀ vs, gtE c i (predE c i sp vs env0) = some true := by intro _; kernel_rfl)
    (hk : ∀ vs, ixE P (one c i) N (predE c i sp vs env0) 0 = some (dstAt c i, some ad, n, size, j) := by intro _; kernel_rfl) (he : coreAt (one c i) 1 = none := by kernel_rfl) : OpOK P c Q N env0 wr sp i := by
  refine op_of hg (fun w vs hK hp a hF => ?_)
  obtain ⟨t, x, y, ty, g, cap, e, kd, g0, g1, g2, g3, g4, g5, g6⟩ := ix_spec (hk vs)
  exact From_index g0 hF g1 g2 rfl g3 g4 rfl g5 g6 h0 h1 (fun a' ea _ => From_end he ⟨_, ea, Kp.refl w, by rw [hv]; rfl⟩)
theorem dA (z : Int) (h1 : -9223372036854775808 ≤ z := by omega) (h2 : z ≤ 9223372036854775807 := by omega) (hv : sp i = .det (.int .i64 z) := by rfl) (hg : ∀ vs, gtE c i (predE c i sp vs env0) = some true := by intro _; kernel_rfl)
    (hk : ∀ vs, arE (one c i) N (predE c i sp vs env0) 0 = some (dstAt c i, z) := by intro _; kernel_rfl) (he : coreAt (one c i) 1 = none := by kernel_rfl) : OpOK P c Q N env0 wr sp i := by
  refine op_of hg (fun w vs hK hp a hF => ?_)
  obtain ⟨op, t, x, y, t', ty, g, i1, j1, g0, g1, g2, g3, g4, g5⟩ := ar_spec (hk vs)
  exact From_arith g0 hF g1 g2 rfl g3 g4 g5 h1 h2 (fun a' ea _ => From_end he ⟨_, ea, Kp.refl w, by rw [hv]; rfl⟩)
theorem dC (b : Bool) {B : Bool} (hb : B = b) (hv : sp i = .det (.bool B) := by rfl) (hg : ∀ vs, gtE c i (predE c i sp vs env0) = some true := by intro _; kernel_rfl)
    (hk : ∀ vs, cmE (one c i) N (predE c i sp vs env0) 0 = some b := by intro _; kernel_rfl) (he : coreAt (one c i) 1 = none := by kernel_rfl) : OpOK P c Q N env0 wr sp i := by
  refine op_of hg (fun w vs hK hp a hF => ?_)
  obtain ⟨d, op, t, x, y, t', ty, g, kd, i1, j1, g0, g1, g2, g3, g4, g5⟩ := cm_spec (hk vs)
  have hd : dstAt c i = d := by
    cases hc : coreAt c i with
    | none =>
      have := hg vs
      unfold gtE at this
      rw [hc] at this
      cases this
    | some o =>
      obtain ⟨e1, e2⟩ := one_at hc
      rw [e1] at g0
      simp only [Option.some.injEq, Prod.mk.injEq] at g0
      rw [e2, g0.1]
  exact From_cmp g0 hF g1 g2 rfl g3 g4 g5 (fun B' hB' a' ea _ => From_end he ⟨_, by rw [hd]; exact ea, Kp.refl w, by rw [hv, hB', hb]; rfl⟩)
end
section
variable {P : Program} {c : Code} {Q : Exit → Act → World → Prop} {N : FN} {i : Nat} {env0 : Env} {sp : Nat → Spec} {J : (Nat → Bool) → (Nat → Value) → World → Prop}
theorem opJ_of (hg : ∀ vs, gtE c i (predE c i sp vs env0) = some true)
    (h : ∀ (w : World) (ls : Nat → Bool) (vs : Nat → Value), J ls vs w → ls i = false → Closed c ls → (∀ j, j ∈ predsOf c i → ls j = true ∧ (sp j).ok (vs j) w) → ∀ a, Fr a N (predE c i sp vs env0) →
      From P (one c i) (fun a' w' => ∃ v, a' = a.put (dstAt c i) v ∧ (sp i).ok v w' ∧ J (setB ls i) (setV vs i v) w') Q 0 a w) : OpOKJ P c Q N env0 sp J i := by
  intro a w ls vs rest hJ hi hc hp hF
  exact ⟨true, fun g hg' => guard_left (gt_spec (hg vs) g hg'), fun _ => h w ls vs hJ hi hc hp a hF.left, fun h => Bool.noConfusion h⟩
theorem dPJ (hJ : ∀ ls vs v w, J ls vs w → J (setB ls i) (setV vs i v) w) (h : ∀ vs, p1E P c N i (predE c i sp vs env0) = dvE (sp i) := by intro _; kernel_rfl) (h2 : isS (dvE (sp i)) = true := by kernel_rfl) : OpOKJ P c Q N env0 sp J i := by
  have key : ∀ vs, ∃ d op ty g v, coreAt c i = some (d, op, ty, g) ∧ guardE c g (predE c i sp vs env0) = some true ∧ okd d N = true ∧ pureOp P (predE c i sp vs env0) op = some v ∧ sp i = .det v := by
    intro vs
    have h3 := h vs
    cases hs : sp i with
    | any Φ hh => rw [hs] at h2; cases h2
    | det u =>
      rw [hs] at h3
      unfold p1E dvE at h3
      simp only at h3
      split at h3
      · rename_i h4
        split at h3
        · rename_i h5 h6
          exact ⟨_, _, _, _, u, h4, h5, h6, h3, rfl⟩
        · cases h3
      · cases h3
  refine opJ_of (fun vs => ?_) (fun w ls vs hj hi hc hp a hF => ?_)
  · obtain ⟨d, op, ty, g, v, h1, h2, _⟩ := key vs
    unfold gtE
    rw [h1]
    exact h2
  · obtain ⟨d, op, ty, g, v, h1, h2, h3, h4, h5⟩ := key vs
    obtain ⟨e1, e2⟩ := one_at h1
    refine From_pure1 e1 hF rfl h3 rfl h4 (fun a' ea _ => From_end (one_end h1) ⟨v, ?_, ?_, hJ _ _ _ _ hj⟩)
    · rw [e2]; exact ea
    · rw [h5]; rfl
theorem dIJ (ad : Addr) (n size : Nat) (j : Int) (hJ : ∀ ls vs v w, J ls vs w → J (setB ls i) (setV vs i v) w) (h0 : 0 ≤ j := by omega) (h1 : j < n := by omega) (hv : sp i = .det (.pointer (some (ad.add (j.toNat * size)))) := by rfl) (hg : ∀ vs, gtE c i (predE c i sp vs env0) = some true := by intro _; kernel_rfl)
    (hk : ∀ vs, ixE P (one c i) N (predE c i sp vs env0) 0 = some (dstAt c i, some ad, n, size, j) := by intro _; kernel_rfl) (he : coreAt (one c i) 1 = none := by kernel_rfl) : OpOKJ P c Q N env0 sp J i := by
  refine opJ_of hg (fun w ls vs hj hi hc hp a hF => ?_)
  obtain ⟨t, x, y, ty, g, cap, e, kd, g0, g1, g2, g3, g4, g5, g6⟩ := ix_spec (hk vs)
  exact From_index g0 hF g1 g2 rfl g3 g4 rfl g5 g6 h0 h1 (fun a' ea _ => From_end he ⟨_, ea, by rw [hv]; rfl, hJ _ _ _ _ hj⟩)
theorem dLJ (ad : Addr) (v : Value) (hJ : ∀ ls vs v w, J ls vs w → J (setB ls i) (setV vs i v) w) (hc : ∀ w ls vs, J ls vs w → ls i = false → Closed c ls → (∀ j, j ∈ predsOf c i → ls j = true) → w.cell? ad = some v) (hv : sp i = .det v := by rfl)
    (hg : ∀ vs, gtE c i (predE c i sp vs env0) = some true := by intro _; kernel_rfl)
    (hk : ∀ vs, ldE P (one c i) N (predE c i sp vs env0) 0 = some (dstAt c i, ad) := by intro _; kernel_rfl) (he : coreAt (one c i) 1 = none := by kernel_rfl) : OpOKJ P c Q N env0 sp J i := by
  refine opJ_of hg (fun w ls vs hj hi hcl hp a hF => ?_)
  obtain ⟨t, x, ty, g, h0, h1, h2, h3, h4⟩ := ld_spec (hk vs)
  exact From_load1 h0 hF h1 h2 rfl h4 h3 (hc w ls vs hj hi hcl (fun j hj' => (hp j hj').1)) (fun a' ea _ => From_end he ⟨v, ea, by rw [hv]; rfl, hJ _ _ _ _ hj⟩)
end
end Go.Mor
namespace Go.Mor
theorem zne {α : Type} [BEq α] [LawfulBEq α] {a b : α} (h : false = (a == b)) : ¬ (a = b) := fun e => Bool.false_ne_true (h.trans (beq_iff_eq.2 e))
end Go.Mor
namespace Go.Mor
open Go.RowKit
abbrev dU : Spec := .det undef
theorem lz {p : Nat → Prop} : ∀ i, i < 0 → p i := lt_zero_all
theorem la {p : Nat → Prop} {n : Nat} (h : ∀ i, i < n → p i) (hn : p n) : ∀ i, i < n + 1 → p i := lt_succ_all h hn
section
variable {P : Program} {c : Code} {Q : Exit → Act → World → Prop} {N : FN} {i : Nat} {env0 : Env} {wr : World} {sp : Nat → Spec}
theorem dK (hv : sp i = .det undef := by rfl) (hg : ∀ vs, gtE c i (predE c i sp vs env0) = some false := by intro _; kernel_rfl) : OpOK P c Q N env0 wr sp i := by
  intro a w vs rest hK hp hF
  exact ⟨false, fun g hg' => guard_left (gt_spec (hg vs) g hg'), fun h => Bool.noConfusion h, fun _ => by rw [hv]; rfl⟩
theorem dIA (A : Option Addr) (ad : Addr) (n size : Nat) (j : Int) (hA : A = some ad) (h0 : 0 ≤ j := by omega) (h1 : j < n := by omega) (hv : sp i = .det (.pointer (some (ad.add (j.toNat * size)))) := by rfl) (hg : ∀ vs, gtE c i (predE c i sp vs env0) = some true := by intro _; kernel_rfl)
    (hk : ∀ vs, ixE P (one c i) N (predE c i sp vs env0) 0 = some (dstAt c i, A, n, size, j) := by intro _; kernel_rfl) (he : coreAt (one c i) 1 = none := by kernel_rfl) : OpOK P c Q N env0 wr sp i :=
  dI ad n size j h0 h1 hv hg (fun vs => by rw [hk vs, hA]) he
theorem cl_spec {k : Nat} {c : Code} {env : Env} {d : Option Nat} {f : FuncId} {vs : Array Value} (hk : clE P c N env k = some (d, f, vs)) :
    ∃ x args ts ty g us cap, coreAt c k = some (d, .call { callee := .value x, args := args, argTypes := ts }, ty, g) ∧ guardE c g env = some true ∧ okd d N = true ∧ ev env x = some (.func (.func f) #[] cap) ∧ evs env args.toList = some us ∧ callOk P f = true ∧ (us ++ cap.toList).toArray = vs := by
  unfold clE at hk
  split at hk
  · rename_i d' x args ts ty g g0
    split at hk
    · rename_i f' first cap us g1 g2 g3 g4
      split at hk
      · rename_i hs hf
        simp only [Option.some.injEq, Prod.mk.injEq] at hk
        obtain ⟨rfl, rfl, hv⟩ := hk
        have hfirst : first = #[] := Array.eq_empty_of_size_eq_zero hs
        subst hfirst
        exact ⟨x, args, ts, ty, g, us, cap, g0, g1, g2, g3, g4, hf, hv⟩
      · cases hk
    · cases hk
  · cases hk
theorem dD {f : FuncId} {vs : Array Value} {u u' : Value} (hc : ∀ w, Kp wr w → Calls P f vs w (Ret fun v w' => v = u ∧ Mem noS w w' [])) (hu : u = u') (hv : sp i = .det u' := by rfl) (hg : ∀ vs, gtE c i (predE c i sp vs env0) = some true := by intro _; kernel_rfl)
    (hk : ∀ vs', clE P (one c i) N (predE c i sp vs' env0) 0 = some (dstAt c i, f, vs) := by intro _; kernel_rfl) (he : coreAt (one c i) 1 = none := by kernel_rfl) : OpOK P c Q N env0 wr sp i := by
  refine op_of hg (fun w vs' hK hp a hF => ?_)
  obtain ⟨x, args, ts, ty, g, us, cap, g0, g1, g2, g3, g4, g5, g6⟩ := cl_spec (hk vs')
  refine From_call (Φ := fun v w' => v = u ∧ Mem noS w w' []) g0 hF g1 g2 rfl (cap := cap.toList) (by simpa using g3) g4 g5 (by rw [g6]; exact hc w hK) (fun v w' hv' a' ea _ => From_end he ⟨v, ea, hv'.2, ?_⟩)
  rw [hv, hv'.1]; exact hu
end
def mvL : Nat → List Res → List Res
  | 0, L => L
  | _ + 1, [] => []
  | n + 1, a :: L => match mvL n L with
    | [] => [a]
    | b :: M => b :: a :: M
def odL : List Nat → List Res → List Res
  | [], L => L
  | i :: l, L => odL l (mvL i L)
def tkL : Nat → List Res → List Res
  | 0, _ => []
  | _ + 1, [] => []
  | n + 1, a :: L => a :: tkL n L
theorem mvL_perm : ∀ (n : Nat) (L : List Res), L.Perm (mvL n L)
  | 0, L => List.Perm.refl L
  | _ + 1, [] => List.Perm.refl []
  | n + 1, a :: L => by
    unfold mvL
    have h := mvL_perm n L
    cases hm : mvL n L with
    | nil => rw [hm] at h; exact h.cons a
    | cons b M => rw [hm] at h; exact (h.cons a).trans (List.Perm.swap b a M)
theorem odL_perm : ∀ (l : List Nat) (L : List Res), L.Perm (odL l L)
  | [], L => List.Perm.refl L
  | i :: l, L => (mvL_perm i L).trans (odL_perm l _)
theorem tkL_pick : ∀ (n : Nat) (L : List Res), pickL (List.replicate n true) L = tkL n L
  | 0, [] => rfl
  | 0, _ :: _ => rfl
  | _ + 1, [] => rfl
  | n + 1, a :: L => by
    rw [List.replicate_succ]
    show a :: pickL (List.replicate n true) L = a :: tkL n L
    rw [tkL_pick n L]
section
variable {S : Nat → Prop} {w0 w w' : World} {L Lr L' : List Res} {r r' s s' : Res}
theorem Mem.nf (h : Mem S w0 w L) (e : L = L' := by dsimp only [List.set_cons_zero, List.set_cons_succ, List.cons_append, List.nil_append]) : Mem S w0 w L' := e ▸ h
theorem Mem.cl (h : Mem S w0 w L) (h' : Mem noS w w' Lr) (e : L ++ Lr = L' := by dsimp only [List.cons_append, List.nil_append, List.append_nil]) : Mem S w0 w' L' := e ▸ h.call h'
theorem Mem.md (h : Mem S w0 w L) (i : Nat) (hi : L[i]? = some r) (h' : Mem r.fp w w' (r' :: Lr)) (e : L.set i r' ++ Lr = L' := by dsimp only [List.set_cons_zero, List.set_cons_succ, List.cons_append, List.nil_append, List.append_nil]) : Mem S w0 w' L' := e ▸ h.mod i hi h'
theorem Mem.od (h : Mem S w0 w L) (l : List Nat) (k : Nat) (e : tkL k (odL l L) = L' := by dsimp only [tkL, odL, mvL]) : Mem S w0 w L' := e ▸ (h.perm (odL_perm l L)).pick _ (tkL_pick k _)
theorem Mem.tk (h : Mem S w0 w L) (k : Nat) (e : tkL k L = L' := by rfl) : Mem S w0 w L' := e ▸ h.pick _ (tkL_pick k _)
end
abbrev pT (b o : Nat) : Value := .pointer (some ⟨b, o, none⟩)
abbrev sM (g : Nat) : Option Addr := some ⟨g, 0, none⟩
abbrev nV (k : Nat) : Value := .int .i64 (k : Int)
theorem Fr.kp {a : Act} {N : FN} {env : Env} (h : Fr a N env) (keep : List Nat) {env' : Env} (e : keepE keep env = env' := by kernel_rfl) : Fr a N env' := h.keep e
section
variable {P : Program} {c : Code} {K : Act → World → Prop} {Q : Exit → Act → World → Prop} {a : Act} {w w0 : World} {S : Nat → Prop} {L : List Res} {k : Nat} {N : FN} {env : Env}
theorem zlp (I : Nat → Act → World → Prop) {n : Nat} (h0 : I n a w) (round : ∀ n a w, I n a w → W P (Code.l c) (fun a' w' => ∃ m, m < n ∧ I m a' w') Q a w) (hk : kind c = .loop := by kernel_rfl) : W P c K Q a w := W_loop hk I h0 round
theorem zpk (n k' : Nat) {news : Env} (keys : List Nat) (hF : Fr a N env) (hp : (pureRun P c N n k env).map (keepE keys) = some news) (h : ∀ a', Fr a' N (news ++ env) → From P c K Q k' a' w) (hc : clearK keys env (dstsOf c n k) = true := by kernel_rfl) (hk : k + n = k' := by rfl) : From P c K Q k a w := From_pureN n k' keys hF hp hc hk h
def bxE (_P : Program) (c : Code) (N : FN) (env : Env) (k : Nat) : Option (Option Nat × TypeId × Value) := match coreAt c k with
  | some (d, .box t x, _, g) => match guardE c g env, okd d N, ev env x with
    | some true, true, some v => some (d, t, v)
    | _, _, _ => none
  | _ => none
theorem zbx (hM : Mem S w0 w L) (t : TypeId) (v : Value) (cs : List Value) (h : ∀ b w', w0.heap.size ≤ b → Mem S w0 w' (L ++ [.blk b t cs]) → ∀ a, Fr a N (putE env (dstAt c k) (.pointer (some ⟨b, 0, none⟩))) → From P c K Q (k + 1) a w')
    (hcs : v.cells = cs.toArray := by rfl) (hk : bxE P c N env k = some (dstAt c k, t, v) := by kernel_rfl) : ∀ a, Fr a N env → From P c K Q k a w := by
  intro a hF
  unfold bxE at hk
  split at hk
  · rename_i g0
    split at hk
    · rename_i g1 g2 g3
      simp only [Option.some.injEq, Prod.mk.injEq] at hk
      obtain ⟨e1, rfl, rfl⟩ := hk
      rw [e1] at g0 g2
      exact From_box g0 hF g1 g2 rfl g3 hcs hM (fun b w' hb _ hM' _ a' _ hF' => h b w' hb hM' a' hF')
    · cases hk
  · cases hk
def alE (_P : Program) (c : Code) (N : FN) (env : Env) (k : Nat) : Option (Option Nat × TypeId) := match coreAt c k with
  | some (d, .alloc t, _, g) => match guardE c g env, okd d N with
    | some true, true => some (d, t)
    | _, _ => none
  | _ => none
theorem zal (hM : Mem S w0 w L) (t : TypeId) (cs : List Value) (h : ∀ b w', w0.heap.size ≤ b → Mem S w0 w' (L ++ [.blk b t cs]) → ∀ a, Fr a N (putE env (dstAt c k) (.pointer (some ⟨b, 0, none⟩))) → From P c K Q (k + 1) a w')
    (hz : (P.info? t).map (fun i => i.zero.map (fun z => z.cells.toList)) = some (some cs) := by kernel_rfl) (hk : alE P c N env k = some (dstAt c k, t) := by kernel_rfl) : ∀ a, Fr a N env → From P c K Q k a w := by
  intro a hF
  unfold alE at hk
  split at hk
  · rename_i g0
    split at hk
    · rename_i g1 g2
      simp only [Option.some.injEq, Prod.mk.injEq] at hk
      obtain ⟨e1, rfl⟩ := hk
      rw [e1] at g0 g2
      exact From_alloc g0 hF g1 g2 rfl hz hM (fun b w' hb _ hM' _ a' _ hF' => h b w' hb hM' a' hF')
    · cases hk
  · cases hk
def ssE (P : Program) (c : Code) (N : FN) (env : Env) (k : Nat) : Option (Option Nat × Nat × Nat × Array Value × Option Nat) := match coreAt c k with
  | some (d, .store t x y, _, g) => match guardE c g env, okd d N, ev env x, ev env y with
    | some true, true, some (.pointer (some ⟨b, o, none⟩)), some (.agg vs) => some (d, b, o, vs, aggT P t)
    | _, _, _, _ => none
  | _ => none
theorem zss (hM : Mem S w0 w L) (i : Nat) (vs : List Value) {b t0 : Nat} {cs : List Value} (hi : L[i]? = some (.blk b t0 cs)) (h : ∀ w', Mem S w0 w' (L.set i (.blk b t0 vs)) → ∀ a, Fr a N (putE env (dstAt c k) undef) → From P c K Q (k + 1) a w')
    (hv : vs.all Value.oneCell' = true := by rfl) (ho : cs.length = vs.length := by rfl) (hk : ssE P c N env k = some (dstAt c k, b, 0, vs.toArray, some vs.length) := by kernel_rfl) : ∀ a, Fr a N env → From P c K Q k a w := by
  intro a hF
  unfold ssE at hk
  split at hk
  · rename_i g0
    split at hk
    · rename_i g1 g2 g3 g4
      simp only [Option.some.injEq, Prod.mk.injEq] at hk
      obtain ⟨e1, rfl, rfl, rfl, e5⟩ := hk
      rw [e1] at g0 g2
      exact From_storeS_blk g0 hF g1 g2 rfl g3 g4 e5 (List.all_eq_true.1 hv) hM i hi ho (fun w' hM' _ a' _ hF' => h w' hM' a' hF')
    · cases hk
  · cases hk
end
section
variable {P : Program} {c : Code} {K : Act → World → Prop} {Q : Exit → Act → World → Prop} {N : FN} {env0 : Env} {wr : World} {a : Act}
theorem zdr (sp : Nat → Spec) (hF : Fr a N env0) (hops : ∀ i, i < (opsOf c).size → OpOK P c Q N env0 wr sp i)
    (h : ∀ a' w' (vs : Nat → Value), Kp wr w' → (∀ j, j < (opsOf c).size → (sp j).ok (vs j) w') → Fr a' N (valsE c sp vs (List.range (opsOf c).size) ++ restE c env0) → K a' w')
    (hk : kind c = .region true := by kernel_rfl) (hm : P.follows .mixedOrders = true := by kernel_rfl) (hd : dstsOk c = true := by kernel_rfl) (hpl : predsLt c = true := by kernel_rfl) (hkeys : keysOk env0 = true := by kernel_rfl)
    (hdn : (List.range (opsOf c).size).all (fun i => okd (dstAt c i) N) = true := by kernel_rfl) : W P c K Q a wr := W_draw hk hm sp hd hpl hF hkeys hdn hops h
theorem zdj (sp : Nat → Spec) (J : (Nat → Bool) → (Nat → Value) → World → Prop) (hF : Fr a N env0) (hdet : ∀ j v w w', (sp j).ok v w → (sp j).ok v w')
    (h0 : J (fun _ => false) (fun _ => undef) wr.drew) (hops : ∀ i, i < (opsOf c).size → OpOKJ P c Q N env0 sp J i)
    (h : ∀ a' w' (ls : Nat → Bool) (vs : Nat → Value), (∀ j, j < (opsOf c).size → ls j = true) → J ls vs w' → (∀ j, j < (opsOf c).size → (sp j).ok (vs j) w') → Fr a' N (valsE c sp vs (List.range (opsOf c).size) ++ restE c env0) → K a' w')
    (hk : kind c = .region true := by kernel_rfl) (hm : P.follows .mixedOrders = true := by kernel_rfl) (hd : dstsOk c = true := by kernel_rfl) (hpl : predsLt c = true := by kernel_rfl) (hkeys : keysOk env0 = true := by kernel_rfl)
    (hdn : (List.range (opsOf c).size).all (fun i => okd (dstAt c i) N) = true := by kernel_rfl) : W P c K Q a wr := W_drawJ hk hm sp J hd hpl hF hkeys hdn hdet h0 hops h
end
section
variable {P : Program} {c : Code} {K : Act → World → Prop} {Q : Exit → Act → World → Prop} {w w0 : World} {S : Nat → Prop} {L : List Res} {k : Nat} {N : FN} {env : Env} {a : Act}
theorem zAp (d : Nat) (x y : Operand) (t ty : TypeId) (hF : Fr a N env) {e size bytes : Nat} {z : Value} {A B : Option Addr} {n cap m cap' : Nat} {xs news : List Value}
    (hM : Mem S w0 w L) (i : Nat) (hL : L[i]? = some (.row e size A n cap xs)) (hsrc : (Res.rd B news).holds w)
    (hl : news.length = m * size) (h1 : ∀ u ∈ news, u.oneCell' = true) (hb : (n + m) * bytes ≤ 140737488355328) (hml : n + m ≤ maxLen)
    (h : ∀ A' c' w', Mem S w0 w' (L.set i (.row e size A' (n + m) c' (xs ++ news))) → Mem (Res.row e size A n cap xs).fp w w' [.row e size A' (n + m) c' (xs ++ news)] → ∀ a', a' = a.put (some d) (.slice A' (n + m) c') → Fr a' N (putE env (some d) (.slice A' (n + m) c')) → From P c K Q (k + 1) a' w')
    (hk : coreAt c k = some (some d, .call { callee := .builtin .append, args := #[x, y], argTypes := #[t, t] }, ty, none) := by kernel_rfl) (hd : okd (some d) N = true := by kernel_rfl) (ht : P.underlying t = some (.slice e) := by kernel_rfl)
    (hi : (P.info? e).map (fun i => (i.size, i.bytes, i.zero)) = some (size, bytes, some z) := by kernel_rfl) (hzs : Nat.beq z.cells.size size = true := by kernel_rfl) (hsz : Nat.blt 0 size = true := by kernel_rfl) (hx : ev env x = some (.slice A n cap) := by kernel_rfl) (hy : ev env y = some (.slice B m cap') := by kernel_rfl) : From P c K Q k a w :=
  From_append hk hF rfl hd rfl ht hi hzs hsz hx hy hM i hL hsrc hl h1 hb hml h
theorem zBs (d : Nat) (t : TypeId) (len : Nat) (ps : Array (Nat × Operand)) (ty : TypeId) (hF : Fr a N env) {e size : Nat} {zs : List Value} {vs : List (Nat × Value)} {cs : List Value} (hM : Mem S w0 w L)
    (h : ∀ b w', w0.heap.size ≤ b → w.heap.size ≤ b → Mem S w0 w' (L ++ [.row e size (some ⟨b, 0, none⟩) len len cs]) → Mem noS w w' [.row e size (some ⟨b, 0, none⟩) len len cs] →
      ∀ a', a' = a.put (some d) (.slice (some ⟨b, 0, none⟩) len len) → Fr a' N (putE env (some d) (.slice (some ⟨b, 0, none⟩) len len)) → From P c K Q (k + 1) a' w')
    (hk : coreAt c k = some (some d, .buildSlice t len ps, ty, none) := by kernel_rfl) (hd : okd (some d) N = true := by kernel_rfl) (ht : P.underlying t = some (.slice e) := by kernel_rfl)
    (hi : (P.info? e).map (fun i => (i.size, i.zero.map (·.cells.toList))) = some (size, some zs) := by kernel_rfl) (hp : parts env ps.toList = some vs := by kernel_rfl) (hsz : (Nat.ble 1 (len * size) && Nat.ble (len * size) 1000) = true := by kernel_rfl)
    (hfill : Instr.fill (fun i => some (i * size, size)) ((Array.range (len * size)).map (zs.toArray[· % zs.toArray.size]!)) vs = some cs.toArray := by kernel_rfl) (hl : Nat.beq cs.length (len * size) = true := by kernel_rfl) : From P c K Q k a w :=
  From_buildSlice hk hF rfl hd rfl ht hi hp hsz hfill hl hM h
end
end Go.Mor
namespace Go.Mor
open Go.RowKit
theorem From_max {P : Program} {c : Code} {K : Act → World → Prop} {Q : Exit → Act → World → Prop} {a : Act} {w : World} {k k' : Nat} {N : FN} {env : Env} {d : Option Nat} {ty : Nat} {g : Option (Nat × Bool)}
    {ts : Array TypeId} {x y : Operand} (hk : coreAt c k = some (d, .call { callee := .builtin .max, args := #[x, y], argTypes := ts }, ty, g)) (hF : Fr a N env) (hg : guardE c g env = some true) (hd : okd d N = true) (hk' : k + 1 = k')
    {kd : IntKind} {i j : Int} (hx : ev env x = some (.int kd i)) (hy : ev env y = some (.int kd j)) (z : Int) (hz : z = if i < j then j else i)
    (h : ∀ a', a' = a.put d (.int kd z) → Fr a' N (putE env d (.int kd z)) → From P c K Q k' a' w) : From P c K Q k a w := by
  refine From_same hk hF hg hd hk' (fun o ho => ?_) h
  unfold execOp
  rw [ho]
  simp only [resolve, invoke, builtin, Sem.run_bind, Sem.run_pure, Result.andThen_ok, List.map_toArray, List.map_cons, List.map_nil, hF.ev hx, hF.ev hy, Builtin.max_, List.foldlM]
  subst hz
  simp [Builtin.max2]
  try (split <;> simp_all <;> omega)
section
variable {P : Program} {c : Code} {Q : Exit → Act → World → Prop} {N : FN} {env0 : Env} {wr : World} {sp : Nat → Spec} {i : Nat}
theorem dMN (kd : IntKind) (i1 j1 z : Int) (x y : Operand) (ts : Array TypeId) (ty : Nat) (g : Option (Nat × Bool)) (hz : z = if j1 < i1 then j1 else i1) (hv : sp i = .det (.int kd z) := by rfl)
    (h0 : coreAt (one c i) 0 = some (dstAt c i, .call { callee := .builtin .min, args := #[x, y], argTypes := ts }, ty, g) := by kernel_rfl) (hg : ∀ vs, gtE c i (predE c i sp vs env0) = some true := by intro _; kernel_rfl)
    (h1 : ∀ vs, guardE (one c i) g (predE c i sp vs env0) = some true := by intro _; kernel_rfl) (h2 : okd (dstAt c i) N = true := by kernel_rfl)
    (hx : ∀ vs, ev (predE c i sp vs env0) x = some (.int kd i1) := by intro _; kernel_rfl) (hy : ∀ vs, ev (predE c i sp vs env0) y = some (.int kd j1) := by intro _; kernel_rfl) (he : coreAt (one c i) 1 = none := by kernel_rfl) : OpOK P c Q N env0 wr sp i := by
  refine op_of hg (fun w vs hK hp a hF => ?_)
  exact From_min h0 hF (h1 vs) h2 rfl (hx vs) (hy vs) z hz (fun a' ea _ => From_end he ⟨_, ea, Kp.refl w, by rw [hv]; rfl⟩)
end
end Go.Mor
namespace Go.Mor
open Go.RowKit
def REnds (Φ Ψ : Value → World → Prop) : Ending → World → Prop
  | .returned v, w => Φ v w
  | .panicked ch, w => ∃ v, ch = [{ v, recovered := false }] ∧ Ψ v w
  | .outgrown, _ => False
theorem REnds.weak {P : Program} {f : FuncId} {vs : Array Value} {w : World} {Φ Ψ Φ' Ψ' : Value → World → Prop} (h : Calls P f vs w (REnds Φ Ψ)) (h1 : ∀ v w', Φ v w' → Φ' v w') (h2 : ∀ v w', Ψ v w' → Ψ' v w') : Calls P f vs w (REnds Φ' Ψ') :=
  h.mono (by
    intro e w' he
    cases e with
    | returned v => exact h1 v w' he
    | panicked ch => obtain ⟨v, e, hv⟩ := he; exact ⟨v, e, h2 v w' hv⟩
    | outgrown => exact he.elim)
abbrev pan (v : Value) : Exit := .panic [{ v, recovered := false }]
def clE2 (P : Program) (c : Code) (N : FN) (env : Env) (k : Nat) : Option (Option Nat × FuncId × List Value) := match coreAt c k with
  | some (d, .call cc, _, g) => match cc.callee, guardE c g env, okd d N, evs env cc.args.toList with
    | .value x, some true, true, some vs => match ev env x with
      | some (.func (.func f) first cap) => match callOk P f with
        | true => some (d, f, first.toList ++ (vs ++ cap.toList))
        | false => none
      | _ => none
    | _, _, _, _ => none
  | _ => none
def clE3 (c : Code) (N : FN) (env : Env) (k : Nat) : Option (Option Nat × FuncId × List Value) := match coreAt c k with
  | some (d, .call cc, _, g) => match cc.callee, guardE c g env, okd d N, evs env cc.args.toList with
    | .value x, some true, true, some vs => match ev env x with
      | some (.func (.func f) first cap) => some (d, f, first.toList ++ (vs ++ cap.toList))
      | _ => none
    | _, _, _, _ => none
  | _ => none
theorem clE2_3 {P : Program} {c : Code} {N : FN} {env : Env} {k : Nat} {d : Option Nat} {f : FuncId} {vs : List Value} (h : clE2 P c N env k = some (d, f, vs)) : clE3 c N env k = some (d, f, vs) ∧ callOk P f = true := by
  unfold clE2 at h
  unfold clE3
  split at h
  · rename_i d0 cc ty g hcore
    split at h
    · rename_i x vs0 hcal hg hd hargs
      split at h
      · rename_i f0 first cap hx
        split at h
        · rename_i hf
          simp only [Option.some.injEq, Prod.mk.injEq] at h
          obtain ⟨rfl, rfl, rfl⟩ := h
          simp only [hcore, hcal, hg, hd, hargs, hx]
          exact ⟨trivial, hf⟩
        · cases h
      · cases h
    · cases h
  · cases h
section
variable {P : Program} {c : Code} {K : Act → World → Prop} {Q : Exit → Act → World → Prop} {w w0 : World} {S : Nat → Prop} {L : List Res} {k : Nat} {N : FN} {env : Env}
theorem From_clE3 {a : Act} (d : Option Nat) (f : FuncId) (vs : List Value) (hF : Fr a N env) (hf : callOk P f = true) (hk : clE3 c N env k = some (d, f, vs)) {Φ Ψ : Value → World → Prop} (hc : Calls P f vs.toArray w (REnds Φ Ψ))
    (h : ∀ v w', Φ v w' → ∀ a', a' = a.put d v → Fr a' N (putE env d v) → From P c K Q (k + 1) a' w') (hp : ∀ v w', Ψ v w' → Q (pan v) a w') : From P c K Q k a w := by
  unfold clE3 at hk
  split at hk
  · rename_i d0 cc ty g hcore
    split at hk
    · rename_i x vs0 hcal hg hd hargs
      split at hk
      · rename_i f0 first cap hx
        · simp only [Option.some.injEq, Prod.mk.injEq] at hk
          obtain ⟨rfl, rfl, rfl⟩ := hk
          refine From_op hcore hF hg fun o h1 h2 h3 K' hK' => ?_
          unfold Oper.wp
          have hr : (execOp a.eval o).run P w = .ok (.enter f0 (first.toList ++ (vs0 ++ cap.toList)).toArray) w := by
            unfold execOp
            rw [h2]
            have e1 := evs_map hF hargs
            have e2 : cc.args.map a.eval = vs0.toArray := by apply Array.ext'; simpa using e1
            have e3 : (first.toList ++ (vs0 ++ cap.toList)).toArray = first ++ vs0.toArray ++ cap := by apply Array.ext'; simp
            rw [e3]
            obtain ⟨callee, args, ats⟩ := cc
            simp only at hcal hargs e2
            subst hcal
            simp [resolve, hF.ev hx, e2, Deferred.ofValue, invoke, run_callFunc hf]
          rw [hr, Oper.upon_enter]
          refine hc.mono ?_
          intro e w' he
          cases e with
          | returned v => rw [h1]; exact hK' _ _ (h v w' he _ rfl (hF.put hd v))
          | panicked ch => obtain ⟨v, rfl, hv⟩ := he; exact hp v w' hv
          | outgrown => exact he.elim
      · cases hk
    · cases hk
  · cases hk
theorem From_clE {a : Act} (d : Option Nat) (f : FuncId) (vs : List Value) (hF : Fr a N env) (hk : clE2 P c N env k = some (d, f, vs)) {Φ Ψ : Value → World → Prop} (hc : Calls P f vs.toArray w (REnds Φ Ψ))
    (h : ∀ v w', Φ v w' → ∀ a', a' = a.put d v → Fr a' N (putE env d v) → From P c K Q (k + 1) a' w') (hp : ∀ v w', Ψ v w' → Q (pan v) a w') : From P c K Q k a w := From_clE3 d f vs hF (clE2_3 hk).2 (clE2_3 hk).1 hc h hp
theorem zce {f : FuncId} {vs : List Value} {Φ Ψ : Value → World → Prop} (hc : Calls P f vs.toArray w (REnds Φ Ψ)) (hp : ∀ v w', Ψ v w' → ∀ a, Fr a N env → Q (pan v) a w')
    (h : ∀ v w', Φ v w' → ∀ a, Fr a N (putE env (dstAt c k) v) → From P c K Q (k + 1) a w')
    (hk : clE2 P c N env k = some (dstAt c k, f, vs) := by kernel_rfl) : ∀ a, Fr a N env → From P c K Q k a w := fun a hF => From_clE _ f vs hF hk hc (fun v w' hv a' _ => h v w' hv a') (fun v w' hv => hp v w' hv a hF)
end
section
variable {P : Program} {w : World} {N : FN} {env : Env} {fn : Func} {Φ Ψ : Value → World → Prop}
theorem xo1 (v : Value) (h : Φ v w) (hk : rsE fn env = some v := by kernel_rfl) (hD : N.D = [] := by rfl) : ∀ a, Fr a N env → bodyPost P fn (REnds Φ Ψ) .ret a w := fun a hF => by
  unfold rsE at hk
  split at hk
  · rename_i t ht
    exact out1 hF (by apply Array.ext'; simpa using ht) hk h hD
  · cases hk
theorem xo0 (h : Φ (.tuple #[]) w) (hk : fn.results = #[] := by rfl) (hD : N.D = [] := by rfl) : ∀ a, Fr a N env → bodyPost P fn (REnds Φ Ψ) .normal a w := fun _ hF => out0 hF hk h hD
theorem xpp {v : Value} {a : Act} (hF : Fr a N env) (h : Ψ v w) (hD : N.D = [] := by rfl) : bodyPost P fn (REnds Φ Ψ) (pan v) a w := ⟨hF.defers.trans hD, v, rfl, h⟩
theorem xen {f : FuncId} (N : FN) (vs : List Value) (hf : P.funcs[f]? = some fn) (h : ∀ a, Fr a N (argE 0 vs) → W P (bodyOf fn) (bodyPost P fn (REnds Φ Ψ) .normal) (bodyPost P fn (REnds Φ Ψ)) a w)
    (hb : fn.body.isSome = true := by kernel_rfl) (hn : Nat.beq fn.ntmps N.n = true := by kernel_rfl) (hl : Nat.ble vs.length N.n = true := by kernel_rfl) (hD : N.D = [] := by rfl) : Calls P f vs.toArray w (REnds Φ Ψ) := enter hf hb hn hl h hD
end
theorem From_panic {P : Program} {c : Code} {K : Act → World → Prop} {Q : Exit → Act → World → Prop} {a : Act} {w : World} {k : Nat} {N : FN} {env : Env} {d : Option Nat} {x : Operand} {ty : Nat} {g : Option (Nat × Bool)}
    (hk : coreAt c k = some (d, .panic x, ty, g)) (hF : Fr a N env) (hg : guardE c g env = some true) {t : TypeId} {v : Value} (hx : ev env x = some (.iface t v)) (h : Q (pan (.iface t v)) a w) : From P c K Q k a w := by
  refine From_op hk hF hg fun o h1 h2 h3 K' hK' => ?_
  unfold Oper.wp
  have hr : (execOp a.eval o).run P w = .halt (.panic (.iface t v)) w := by
    unfold execOp
    rw [h2]
    simp [hF.ev hx, Instr.panic, goPanic]
    try rfl
  rw [hr, Oper.upon_panic]
  exact h
end Go.Mor

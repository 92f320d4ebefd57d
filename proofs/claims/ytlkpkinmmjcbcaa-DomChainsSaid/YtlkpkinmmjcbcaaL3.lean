/-
  Operations that only reckon: many at once, by the kernel. Nothing of a program in sight.
-/
import Derived.Test.YtlkpkinmmjcbcaaL2
namespace Go.Mor
open Go.RowKit

def evs (env : Env) : List Operand → Option (List Value)
  | [] => some []
  | x :: r => match ev env x with
    | some v => match evs env r with
      | some vs => some (v :: vs)
      | none => none
    | none => none

theorem evs_map {a : Act} {N : Nat} {env : Env} (hF : Fr a N env) : ∀ {l : List Operand} {vs : List Value}, evs env l = some vs → l.map a.eval = vs
  | [], vs, h => by simp [evs] at h; simp [h]
  | x :: r, vs, h => by
    simp only [evs] at h
    split at h
    · rename_i v hv
      split at h
      · rename_i us hu
        injection h with h
        subst h
        rw [List.map_cons, hF.ev hv, evs_map hF hu]
      · cases h
    · cases h

def parts (env : Env) : List (Nat × Operand) → Option (List (Nat × Value))
  | [] => some []
  | (i, x) :: r => match ev env x with
    | some v => match parts env r with
      | some vs => some ((i, v) :: vs)
      | none => none
    | none => none

theorem parts_map {a : Act} {N : Nat} {env : Env} (hF : Fr a N env) : ∀ {l : List (Nat × Operand)} {vs : List (Nat × Value)}, parts env l = some vs → l.map (fun (i, x) => (i, a.eval x)) = vs
  | [], vs, h => by simp [parts] at h; simp [h]
  | (i, x) :: r, vs, h => by
    simp only [parts] at h
    split at h
    · rename_i v hv
      split at h
      · rename_i us hu
        injection h with h
        subst h
        simp only [List.map_cons, parts_map hF hu, hF.ev hv]
      · cases h
    · cases h

def cmpI : BinOp → Int → Int → Option Bool
  | .eql, x, y => some (x == y)
  | .neq, x, y => some (x != y)
  | .lss, x, y => some (decide (x < y))
  | .leq, x, y => some (decide (x ≤ y))
  | .gtr, x, y => some (decide (x > y))
  | .geq, x, y => some (decide (x ≥ y))
  | _, _, _ => none

/-- An integer's sum, difference or product, bare of its wrap where it fits. -/
def arI : BinOp → Int → Int → Option Int
  | .add, x, y => some (x + y)
  | .sub, x, y => some (x - y)
  | .mul, x, y => some (x * y)
  | _, _, _ => none

def partV (P : Program) (t : TypeId) (cs : Array Value) (off : Nat) : Option Value :=
  match P.underlying t with
  | some (.struct _) | some (.array _ _) => match P.info? t with
    | some i => some (.agg (cs.extract off (off + i.size)))
    | none => none
  | some _ => cs[off]?
  | none => none

theorem run_part {P : Program} {t : TypeId} {cs : Array Value} {off : Nat} {v : Value} (h : partV P t cs off = some v) (w : World) : (part t cs off).run P w = .ok v w := by
  unfold partV at h
  split at h
  · rename_i u
    split at h
    · rename_i i hi
      injection h with h
      subst h
      simp [part, isAgg, run_underlying u, sizeOf, typeInfo, hi]
    · cases h
  · rename_i u
    split at h
    · rename_i i hi
      injection h with h
      subst h
      simp [part, isAgg, run_underlying u, sizeOf, typeInfo, hi]
    · cases h
  · rename_i d h1 h2 u
    have hA : (isAgg t).run P w = .ok false w := by
      simp only [isAgg, Sem.run_bind, run_underlying u, Result.andThen_ok]
      cases d <;> first | rfl | (exact absurd rfl (h1 _)) | (exact absurd rfl (h2 _ _))
    simp only [part, Sem.run_bind, hA, Result.andThen_ok]
    simp [h]
  · cases h

def pureOp (P : Program) (env : Env) : Op → Option Value
  | .move x => ev env x
  | .assign x => ev env x
  | .pick c a b => match ev env c with
    | some (.bool true) => ev env a
    | some (.bool false) => ev env b
    | _ => none
  | .nilCheck x => match ev env x with
    | some (.pointer (some a)) => some (.pointer (some a))
    | _ => none
  | .unOp .not _ x => match ev env x with
    | some (.bool b) => some (.bool (!b))
    | _ => none
  | .fieldAddr s x f => match P.underlying s, ev env x with
    | some (.struct fs), some (.pointer (some a)) => match fs[f]? with
      | some fl => match P.info? fl.type with
        | some i => match i.size with
          | 0 => none
          | _ + 1 => some (.pointer (some (a.add fl.offset)))
        | none => none
      | none => none
    | _, _ => none
  | .field s x f => match P.underlying s, ev env x with
    | some (.struct fs), some (.agg cs) => match fs[f]? with
      | some fl => partV P fl.type cs fl.offset
      | none => none
    | _, _ => none
  | .makeFunc fn first captured => match evs env first.toList, evs env captured.toList with
    | some u, some v => some (.func fn u.toArray v.toArray)
    | _, _ => none
  | .extract x i => match ev env x with
    | some (.tuple vs) => vs[i]?
    | _ => none
  | .build t ps => match parts env ps.toList with
    | some vs => match P.built t vs with
      | some cells => some (.agg cells)
      | none => none
    | none => none
  | .call { callee := .builtin .len, args := args, argTypes := ts } => match args.toList, ts.toList with
    | [x], [t] => match P.underlying t, ev env x with
      | some (.slice _), some (.slice _ n _) => some (.int .i64 n)
      | some .string, some (.string s) => some (.int .i64 s.size)
      | _, _ => none
    | _, _ => none
  | .binOp op t x y _ => match ev env x, ev env y with
    | some (.int k a), some (.int k' b) => if k = k' then (match cmpI op a b with
      | some r => some (.bool r)
      | none => none) else none
    | some (.bool a), some (.bool b) => match P.underlying t with
      | some .bool => match op with
        | .eql => some (.bool (a == b))
        | .neq => some (.bool (!(a == b)))
        | _ => none
      | _ => none
    | some (.string a), some (.string b) => match op with
      | .eql => some (.bool (a.toList == b.toList))
      | .neq => some (.bool (!(a.toList == b.toList)))
      | _ => none
    | _, _ => none
  | .makeInterface t x => match ev env x, P.underlying t with
    | some _, some (.interface _) => none
    | some v, some _ => some (.iface t v)
    | _, _ => none
  | _ => none

theorem run_equal_bool {P : Program} {t : TypeId} (hu : P.underlying t = some .bool) (a b : Bool) (w : World) : (Op.equal t (.bool a) (.bool b)).run P w = .ok (a == b) w := by
  have h : ∀ d : Nat, (Op.equalIn (d + 1) t (.bool a) (.bool b)).run P w = .ok (a == b) w := by
    intro d
    rw [Op.equalIn, Sem.run_bind, run_underlying hu, Result.andThen_ok]
    rfl
  exact h 9999

set_option maxHeartbeats 1000000 in
theorem run_pure {P : Program} {fr : Act} {N : Nat} {env : Env} (hF : Fr fr N env) {op : Op} {v : Value} (h : pureOp P env op = some v) {o : Oper} (ho : o.op = op) (w : World) :
    (execOp fr.eval o).run P w = .ok (.value v) w := by
  unfold execOp
  rw [ho]
  unfold pureOp at h
  split at h
  case h_1 => simp [hF.ev h]
  case h_2 => simp [hF.ev h]
  case h_3 c x y =>
    split at h
    · rename_i hc; simp [hF.ev hc, asBool, hF.ev h]
    · rename_i hc; simp [hF.ev hc, asBool, hF.ev h]
    · cases h
  case h_4 x =>
    split at h
    · rename_i u hu; injection h with h; subst h; simp [hF.ev hu]
    · cases h
  case h_5 t x =>
    split at h
    · rename_i u hu; injection h with h; subst h; simp [hF.ev hu, Op.unary]
    · cases h
  case h_6 s x f =>
    split at h
    · rename_i fs a hs hx
      split at h
      · rename_i fl hfl
        split at h
        · rename_i i hi
          split at h
          · cases h
          · rename_i n hn
            injection h with h
            subst h
            simp [Instr.fieldAt, run_underlying hs, hfl, hF.ev hx, Instr.sureAddr, fieldPlace, sizeOf, typeInfo, hi, hn]
        · cases h
      · cases h
    · cases h
  case h_7 s x f =>
    split at h
    · rename_i fs cs hs hx
      split at h
      · rename_i fl hfl
        simp [Instr.field, run_underlying hs, hfl, hF.ev hx, asAgg, run_part h]
      · cases h
    · cases h
  case h_8 fn first captured =>
    split at h
    · rename_i u v hu hv
      injection h with h
      subst h
      have e1 := evs_map hF hu
      have e2 := evs_map hF hv
      have e3 : first.map fr.eval = u.toArray := by apply Array.ext'; simpa using e1
      have e4 : captured.map fr.eval = v.toArray := by apply Array.ext'; simpa using e2
      simp [Instr.makeFunc, e3, e4]
    · cases h
  case h_9 x i =>
    split at h
    · rename_i vs hx; simp [hF.ev hx, Instr.extract, h]
    · cases h
  case h_10 t ps =>
    split at h
    · rename_i vs hv
      split at h
      · rename_i cells hc
        injection h with h
        subst h
        have e1 := parts_map hF hv
        have e2 : (ps.map fun (i, x) => (i, fr.eval x)) = vs.toArray := by apply Array.ext'; simpa using e1
        simp only [e2, Sem.run_bind, run_build (P := P) w t vs.toArray cells (by simpa using hc), Result.andThen_ok]
        rfl
      · cases h
    · cases h
  case h_11 args ts =>
    split at h
    · rename_i x t hx ht
      have hx' : args = #[x] := by apply Array.ext'; simpa using hx
      have ht' : ts = #[t] := by apply Array.ext'; simpa using ht
      subst hx' ht'
      split at h
      · rename_i e a n c hu hv
        injection h with h
        subst h
        simp [resolve, invoke, builtin, Builtin.len_, run_underlying hu, hF.ev hv, goInt]
      · rename_i s hu hv
        injection h with h
        subst h
        simp [resolve, invoke, builtin, Builtin.len_, run_underlying hu, hF.ev hv, goInt]
      · cases h
    · cases h
  case h_12 op t x y t' =>
    split at h
    · rename_i k a k' b hx hy
      split at h
      · rename_i hk
        subst hk
        simp only [hF.ev hx, hF.ev hy]
        cases op <;> simp only [cmpI] at h <;> first
          | (cases h; done)
          | (injection h with h; subst h; simp [eqGuard, binOp, Op.intCmp])
      · cases h
    · rename_i a b hx hy
      split at h
      · rename_i hu
        simp only [hF.ev hx, hF.ev hy]
        split at h
        · injection h with h; subst h; simp [eqGuard, binOp, run_equal_bool hu]
        · injection h with h; subst h; simp [eqGuard, binOp, run_equal_bool hu]
        · cases h
      · cases h
    · rename_i a b hx hy
      simp only [hF.ev hx, hF.ev hy]
      split at h
      · injection h with h; subst h; simp [eqGuard, binOp, Op.stringOp]
      · injection h with h; subst h; simp [eqGuard, binOp, Op.stringOp]
      · cases h
    · cases h
  case h_13 t x =>
    split at h
    · cases h
    · rename_i u d hd hx hu
      injection h with h
      subst h
      cases d <;> first
        | (exact absurd rfl (hd _))
        | simp [Instr.makeInterface, hF.ev hx, run_underlying hu]
    · cases h
  case h_14 => cases h

def pureRun (P : Program) (c : Code) (N : Nat) : Nat → Nat → Env → Option Env
  | 0, _, env => some env
  | n + 1, k, env => match coreAt c k with
    | some (d, op, _, g) => match okd d N with
      | true => match guardE c g env with
        | some true => match pureOp P env op with
          | some v => pureRun P c N n (k + 1) (putE env d v)
          | none => none
        | some false => pureRun P c N n (k + 1) (putE env d undef)
        | none => none
      | false => none
    | none => none

section
variable {P : Program} {c : Code} {K : Act → World → Prop} {Q : Exit → Act → World → Prop} {w : World}
theorem pure_aux {N : Nat} : ∀ (n k : Nat) {a : Act} {env env1 : Env}, Fr a N env → pureRun P c N n k env = some env1 → (∀ a', Fr a' N env1 → From P c K Q (k + n) a' w) → From P c K Q k a w
  | 0, k, a, env, env1, hF, hp, h => by
    simp only [pureRun, Option.some.injEq] at hp
    subst hp
    exact h a hF
  | n + 1, k, a, env, env1, hF, hp, h => by
    simp only [pureRun] at hp
    split at hp
    · rename_i d op ty g hk
      split at hp
      · rename_i hd
        split at hp
        · rename_i hg
          split at hp
          · rename_i v hv
            refine From_val hk hF hg (fun o ho _ => run_pure hF hv ho w) ?_
            exact pure_aux n (k + 1) (hF.put hd v) hp (fun a' hF' => by have := h a' hF'; rwa [show k + (n + 1) = k + 1 + n by omega] at this)
          · cases hp
        · rename_i hg
          refine From_skip hk hF hg ?_
          exact pure_aux n (k + 1) (hF.put hd undef) hp (fun a' hF' => by have := h a' hF'; rwa [show k + (n + 1) = k + 1 + n by omega] at this)
        · cases hp
      · cases hp
    · cases hp

/-- n operations that only reckon, at once. -/
theorem From_pure {N : Nat} (n k' : Nat) {k : Nat} {a : Act} {env env' : Env} (keep : List Nat) (hF : Fr a N env) (hp : (pureRun P c N n k env).map (keepE keep) = some env') (hk : k + n = k')
    (h : ∀ a', Fr a' N env' → From P c K Q k' a' w) : From P c K Q k a w := by
  cases hr : pureRun P c N n k env with
  | none => rw [hr] at hp; cases hp
  | some env1 =>
    rw [hr] at hp
    simp only [Option.map_some, Option.some.injEq] at hp
    subst hk
    exact pure_aux n k hF hr (fun a' hF' => h a' (hF'.keep hp))
end
end Go.Mor

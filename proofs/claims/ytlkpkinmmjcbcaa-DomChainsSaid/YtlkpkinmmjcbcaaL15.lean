/-
  A whole number turned to another kind. Nothing of a program in sight.
-/
import Derived.Test.YtlkpkinmmjcbcaaL14
namespace Go.Mor
open Go.RowKit

theorem From_conv {P : Program} {c : Code} {K : Act → World → Prop} {Q : Exit → Act → World → Prop} {a : Act} {w : World} {k k' N : Nat} {env : Env} {d : Option Nat} {ty : Nat} {g : Option (Nat × Bool)}
    {t t' : TypeId} {x : Operand} (hk : coreAt c k = some (d, .convert t t' x, ty, g)) (hF : Fr a N env) (hg : guardE c g env = some true) (hd : okd d N = true) (hk' : k + 1 = k')
    {kd kd' ks : IntKind} {i z : Int} (hx : ev env x = some (.int kd i)) (hs : P.underlying t = some (.int ks)) (ht : P.underlying t' = some (.int kd')) (hz : kd'.wrap i = z)
    (h : ∀ a', a' = a.put d (.int kd' z) → Fr a' N (putE env d (.int kd' z)) → From P c K Q k' a' w) : From P c K Q k a w := by
  refine From_same hk hF hg hd hk' (fun o ho => ?_) h
  unfold execOp
  rw [ho]
  simp [hF.ev hx, convert, Sem.run_bind, run_underlying hs, run_underlying ht, Result.andThen_ok, Conv.intToInt, hz]
theorem u8_of {n : Int} (h : (Lit.int .u8 n).wf = true) : 0 ≤ n ∧ n ≤ 255 := by
  simp only [Lit.wf, Bool.and_eq_true, decide_eq_true_eq] at h
  exact ⟨h.1, h.2⟩
end Go.Mor

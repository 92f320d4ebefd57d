/-
  The builtin 'min' of two numbers; the row that is left behind 's[l:]'. Nothing of a program in sight.
-/
import Derived.Test.YtlkpkinmmjcbcaaL10
namespace Go.Mor
open Go.RowKit

theorem From_min {P : Program} {c : Code} {K : Act → World → Prop} {Q : Exit → Act → World → Prop} {a : Act} {w : World} {k k' N : Nat} {env : Env} {d : Option Nat} {ty : Nat} {g : Option (Nat × Bool)}
    {ts : Array TypeId} {x y : Operand} (hk : coreAt c k = some (d, .call { callee := .builtin .min, args := #[x, y], argTypes := ts }, ty, g)) (hF : Fr a N env) (hg : guardE c g env = some true) (hd : okd d N = true) (hk' : k + 1 = k')
    {kd : IntKind} {i j : Int} (hx : ev env x = some (.int kd i)) (hy : ev env y = some (.int kd j)) (z : Int) (hz : z = if j < i then j else i)
    (h : ∀ a', a' = a.put d (.int kd z) → Fr a' N (putE env d (.int kd z)) → From P c K Q k' a' w) : From P c K Q k a w := by
  refine From_same hk hF hg hd hk' (fun o ho => ?_) h
  unfold execOp
  rw [ho]
  simp only [resolve, invoke, builtin, Sem.run_bind, Sem.run_pure, Result.andThen_ok, List.map_toArray, List.map_cons, List.map_nil, hF.ev hx, hF.ev hy, Builtin.min_, List.foldlM]
  subst hz
  simp [Builtin.min2]
  try (split <;> simp_all <;> omega)
theorem rd_drop {w : World} {ad : Addr} {xs : List Value} (h : (Res.rd (some ad) xs).holds w) (m : Nat) : (Res.rd (some (ad.add (m * 1))) (xs.drop m)).holds w := by
  intro i v hi
  rw [List.getElem?_drop] at hi
  obtain ⟨a', ha, hc⟩ := h (m + i) v hi
  injection ha with ha
  subst ha
  refine ⟨_, rfl, ?_⟩
  rw [add_add, Nat.mul_one]
  exact hc
end Go.Mor

/-
  Arithmetic on words: what '/', '%', '<<', '>>', '&', '|' give. Nothing of a program in sight.
-/
import Derived.Test.YtlkpkinmmjcbcaaL8
namespace Go.Mor
open Go.RowKit

theorem From_binI {P : Program} {c : Code} {K : Act → World → Prop} {Q : Exit → Act → World → Prop} {a : Act} {w : World} {k k' N : Nat} {env : Env} {d : Option Nat} {ty : Nat} {g : Option (Nat × Bool)}
    {op : BinOp} {t t' : TypeId} {x y : Operand} (hk : coreAt c k = some (d, .binOp op t x y t', ty, g)) (hF : Fr a N env) (hg : guardE c g env = some true) (hd : okd d N = true) (hk' : k + 1 = k')
    {kd kd' : IntKind} {i j : Int} {z : Value} (hx : ev env x = some (.int kd i)) (hy : ev env y = some (.int kd' j)) (hb : ∀ w, (binOp op t (.int kd i) (.int kd' j)).run P w = .ok z w)
    (h : ∀ a', a' = a.put d z → Fr a' N (putE env d z) → From P c K Q k' a' w) : From P c K Q k a w := by
  refine From_same hk hF hg hd hk' (fun o ho => ?_) h
  unfold execOp
  rw [ho]
  have he : (eqGuard op t x y (.int kd i) (.int kd' j)).run P w = .ok () w := by cases op <;> simp [eqGuard]
  simp only [hF.ev hx, hF.ev hy, Sem.run_bind, he, Result.andThen_ok, hb]
  rfl

section
variable {P : Program} {t : TypeId}
theorem bin_quo {i : Int} (m : Int) (h0 : 0 ≤ i) (h1 : i ≤ 9223372036854775807) (hm : 0 < m) (w : World) : (binOp .quo t (.int .i64 i) (.int .i64 m)).run P w = .ok (.int .i64 (i / m)) w := by
  have hne : m ≠ 0 := by omega
  have hle : i / m ≤ i := Int.ediv_le_self _ h0
  have h2 : 0 ≤ i / m := Int.ediv_nonneg h0 (by omega)
  have hw : IntKind.i64.wrap (i.tdiv m) = i / m := by
    rw [Int.tdiv_eq_ediv_of_nonneg h0]
    exact IntWalk.i64_in _ ⟨by omega, by omega⟩
  simp [binOp, Op.intDiv, hne, hw]
theorem bin_rem {i : Int} (m : Int) (h0 : 0 ≤ i) (hm : 0 < m) (w : World) : (binOp .rem t (.int .i64 i) (.int .i64 m)).run P w = .ok (.int .i64 (i % m)) w := by
  have hne : m ≠ 0 := by omega
  simp [binOp, Op.intDiv, hne, Int.tmod_eq_emod_of_nonneg h0]
theorem bin_quoN {i : Nat} (m : Nat) (h1 : i ≤ 9223372036854775807) (hm : 0 < m) (w : World) : (binOp .quo t (.int .i64 (i : Int)) (.int .i64 (m : Int))).run P w = .ok (.int .i64 ((i / m : Nat) : Int)) w :=
  bin_quo (i := (i : Int)) (m : Int) (by omega) (by omega) (by omega) w
theorem bin_remN {i : Nat} (m : Nat) (hm : 0 < m) (w : World) : (binOp .rem t (.int .i64 (i : Int)) (.int .i64 (m : Int))).run P w = .ok (.int .i64 ((i % m : Nat) : Int)) w :=
  bin_rem (i := (i : Int)) (m : Int) (by omega) (by omega) w
theorem two_pow_le {r : Nat} (h : r < 64) : (2 : Nat) ^ r < 2 ^ 64 := Nat.pow_lt_pow_right (by decide) h
theorem wrap_u64 {q : Nat} (h : q < 2 ^ 64) : IntKind.u64.wrap (q : Int) = (q : Int) := IntWalk.u64_in _ ⟨by omega, by omega⟩
theorem bin_shl {r : Nat} (h : r < 64) (w : World) : (binOp .shl t (.int .u64 1) (.int .i64 (r : Int))).run P w = .ok (.int .u64 ((2 ^ r : Nat) : Int)) w := by
  have h1 : ¬ ((r : Int) < 0) := by omega
  have hmin : min (r : Int).toNat IntKind.u64.bits = r := by simp [IntKind.bits]; omega
  have hw : IntKind.u64.wrap (1 * 2 ^ r : Int) = ((2 ^ r : Nat) : Int) := by
    have e : (1 * 2 ^ r : Int) = ((2 ^ r : Nat) : Int) := by simp
    rw [e]
    exact wrap_u64 (two_pow_le h)
  show (Op.shift .shl .u64 1 .i64 (r : Int)).run P w = _
  unfold Op.shift
  rw [if_neg h1]
  simp only [hmin, hw, Sem.run_pure]
theorem bin_or {x y : Nat} (hx : x < 2 ^ 64) (hy : y < 2 ^ 64) (w : World) : (binOp .or t (.int .u64 (x : Int)) (.int .u64 (y : Int))).run P w = .ok (.int .u64 ((x ||| y : Nat) : Int)) w := by
  have h3 : x ||| y < 2 ^ 64 := Nat.or_lt_two_pow hx hy
  have hw : IntKind.u64.wrap ((x ||| y : Nat) : Int) = ((x ||| y : Nat) : Int) := IntWalk.u64_in _ ⟨by omega, by omega⟩
  have hb : (BitVec.ofInt IntKind.u64.bits (x : Int) ||| BitVec.ofInt IntKind.u64.bits (y : Int)).toNat = x ||| y := by
    have e1 : BitVec.ofInt IntKind.u64.bits (x : Int) = BitVec.ofNat 64 x := by
      apply BitVec.eq_of_toNat_eq
      simp [IntKind.bits]
    have e2 : BitVec.ofInt IntKind.u64.bits (y : Int) = BitVec.ofNat 64 y := by
      apply BitVec.eq_of_toNat_eq
      simp [IntKind.bits]
    rw [e1, e2]
    show (BitVec.ofNat 64 x ||| BitVec.ofNat 64 y).toNat = _
    rw [BitVec.toNat_or, BitVec.toNat_ofNat, BitVec.toNat_ofNat, Nat.mod_eq_of_lt hx, Nat.mod_eq_of_lt hy]
  show (Op.intBits .or .u64 (x : Int) (y : Int)).run P w = _
  simp only [Op.intBits, Sem.run_pure, hb, hw]
theorem bin_and {x y : Nat} (hx : x < 2 ^ 64) (hy : y < 2 ^ 64) (w : World) : (binOp .and t (.int .u64 (x : Int)) (.int .u64 (y : Int))).run P w = .ok (.int .u64 ((x &&& y : Nat) : Int)) w := by
  have h3 : x &&& y < 2 ^ 64 := Nat.lt_of_le_of_lt Nat.and_le_left hx
  have hw : IntKind.u64.wrap ((x &&& y : Nat) : Int) = ((x &&& y : Nat) : Int) := IntWalk.u64_in _ ⟨by omega, by omega⟩
  have hb : (BitVec.ofInt IntKind.u64.bits (x : Int) &&& BitVec.ofInt IntKind.u64.bits (y : Int)).toNat = x &&& y := by
    have e1 : BitVec.ofInt IntKind.u64.bits (x : Int) = BitVec.ofNat 64 x := by
      apply BitVec.eq_of_toNat_eq
      simp [IntKind.bits]
    have e2 : BitVec.ofInt IntKind.u64.bits (y : Int) = BitVec.ofNat 64 y := by
      apply BitVec.eq_of_toNat_eq
      simp [IntKind.bits]
    rw [e1, e2]
    show (BitVec.ofNat 64 x &&& BitVec.ofNat 64 y).toNat = _
    rw [BitVec.toNat_and, BitVec.toNat_ofNat, BitVec.toNat_ofNat, Nat.mod_eq_of_lt hx, Nat.mod_eq_of_lt hy]
  show (Op.intBits .and .u64 (x : Int) (y : Int)).run P w = _
  simp only [Op.intBits, Sem.run_pure, hb, hw]
theorem bin_and1 {x : Nat} (hx : x < 2 ^ 64) (w : World) : (binOp .and t (.int .u64 (x : Int)) (.int .u64 1)).run P w = .ok (.int .u64 ((x &&& 1 : Nat) : Int)) w :=
  bin_and (y := 1) hx (by decide) w
theorem bin_shr {x r : Nat} (h : r < 64) (w : World) : (binOp .shr t (.int .u64 (x : Int)) (.int .i64 (r : Int))).run P w = .ok (.int .u64 ((x / 2 ^ r : Nat) : Int)) w := by
  have h1 : ¬ ((r : Int) < 0) := by omega
  have hmin : min (r : Int).toNat IntKind.u64.bits = r := by simp [IntKind.bits]; omega
  have e : (x : Int).fdiv (2 ^ r) = ((x / 2 ^ r : Nat) : Int) := by
    have e2 : (2 ^ r : Int) = ((2 ^ r : Nat) : Int) := by simp
    rw [e2, Int.fdiv_eq_ediv_of_nonneg _ (Int.natCast_nonneg _)]
    rfl
  show (Op.shift .shr .u64 (x : Int) .i64 (r : Int)).run P w = _
  unfold Op.shift
  rw [if_neg h1]
  simp only [hmin, e, Sem.run_pure]
end

/-! ### numbers that were met, as bits of words -/
def u64s (ws : List Nat) : List Value := ws.map (fun x : Nat => Value.int .u64 (x : Int))
def tb (ws : List Nat) (i : Nat) : Bool := (ws.getD (i / 64) 0).testBit (i % 64)
def putw (ws : List Nat) (i : Nat) : List Nat := ws.set (i / 64) (ws.getD (i / 64) 0 ||| 2 ^ (i % 64))
theorem u64s_get {ws : List Nat} {i : Nat} (h : i < ws.length) : (u64s ws)[i]? = some (.int .u64 ((ws.getD i 0 : Nat) : Int)) := by
  simp [u64s, List.getD, h]
theorem u64s_set (ws : List Nat) (i x : Nat) : u64s (ws.set i x) = (u64s ws).set i (.int .u64 (x : Int)) := by simp [u64s, List.map_set]
theorem u64s_len (ws : List Nat) : (u64s ws).length = ws.length := by simp [u64s]
theorem tb_put {ws : List Nat} {i : Nat} (hi : i / 64 < ws.length) (j : Nat) : tb (putw ws i) j = (decide (i = j) || tb ws j) := by
  unfold tb putw
  by_cases h : i / 64 = j / 64
  · have e : (ws.set (i / 64) (ws.getD (i / 64) 0 ||| 2 ^ (i % 64))).getD (j / 64) 0 = (ws.getD (i / 64) 0 ||| 2 ^ (i % 64)) := by
      rw [← h]; simp [List.getD, hi]
    rw [e, Nat.testBit_or, Nat.testBit_two_pow, ← h]
    have e2 : (i % 64 = j % 64) ↔ i = j := by omega
    simp only [e2]
    rw [Bool.or_comm]
  · have e : (ws.set (i / 64) (ws.getD (i / 64) 0 ||| 2 ^ (i % 64))).getD (j / 64) 0 = ws.getD (j / 64) 0 := by
      simp [List.getD, List.getElem?_set_ne h]
    rw [e]
    have : ¬ i = j := fun e => h (by rw [e])
    simp [this]
theorem tb_zero (k j : Nat) : tb (List.replicate k 0) j = false := by
  unfold tb
  have : (List.replicate k 0).getD (j / 64) 0 = 0 := by
    by_cases h : j / 64 < k
    · simp [List.getD, h]
    · simp [List.getD, h]
  rw [this, Nat.zero_testBit]
theorem bit_of (x r : Nat) : (((x / 2 ^ r &&& 1 : Nat) : Int) == 1) = x.testBit r := by
  rw [Nat.testBit, Nat.shiftRight_eq_div_pow, Nat.and_comm 1]
  rcases Nat.mod_two_eq_zero_or_one (x / 2 ^ r) with h | h
  · rw [Nat.and_one_is_mod, h]; rfl
  · rw [Nat.and_one_is_mod, h]; rfl
/-- All words fit. -/
def Fit (ws : List Nat) : Prop := ∀ x, x ∈ ws → x < 2 ^ 64
theorem Fit.get {ws : List Nat} (h : Fit ws) (i : Nat) : ws.getD i 0 < 2 ^ 64 := by
  unfold List.getD
  cases hx : ws[i]? with
  | none => simp
  | some x => exact h x (List.mem_of_getElem? hx)
theorem Fit.put {ws : List Nat} (h : Fit ws) (i : Nat) : Fit (putw ws i) := by
  intro x hx
  unfold putw at hx
  rcases List.mem_or_eq_of_mem_set hx with h1 | h1
  · exact h x h1
  · subst h1
    exact Nat.or_lt_two_pow (h.get _) (two_pow_le (Nat.mod_lt _ (by decide)))
theorem Fit.zero (k : Nat) : Fit (List.replicate k 0) := by
  intro x hx
  rw [List.eq_of_mem_replicate hx]
  decide
end Go.Mor

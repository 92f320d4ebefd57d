/-
  More laws on rows: clear, cut, take. Nothing of a program in sight.
-/
import Derived.Test.YtlkpkinmmjcbcaaL6
namespace Go.Mor
open Go.RowKit

theorem storeCells_row {e size n c : Nat} {ad : Addr} {P : Program} : ∀ (vs : List Value) (off i : Nat) {xs : List Value} {w : World}, (∀ v ∈ vs, v.oneCell' = true) → (Res.row e size (some ad) n c xs).holds w → off + i + vs.length ≤ xs.length →
    ∃ w', (storeCells (ad.add off) vs i).run P w = .ok () w' ∧ Mem (Res.row e size (some ad) n c xs).fp w w' [.row e size (some ad) n c (xs.take (off + i) ++ vs ++ xs.drop (off + i + vs.length))]
  | [], off, i, xs, w, _, hb, _ => ⟨w, by simp [storeCells], by simpa using Mem.initS hb⟩
  | v :: vs, off, i, xs, w, h1, hb, hl => by
    simp only [List.length_cons] at hl
    have hm := Mem.set_row (j := off + i) hb v
    have hb' := hm.get 0 rfl
    obtain ⟨w', hr, hm'⟩ := storeCells_row vs off (i + 1) (fun u hu => h1 u (List.mem_cons_of_mem _ hu)) hb' (by simp; omega)
    refine ⟨w', ?_, ?_⟩
    · have hlt : off + i < xs.length := by omega
      obtain ⟨a', ha', hcell⟩ := row_rd hb (off + i) xs[off + i] (by simp [hlt])
      injection ha' with ha'
      subst ha'
      have hst : (store (ad.add (off + i)) v).run P w = .ok () (w.setCell (ad.add (off + i)) v) := by
        rw [run_store P w _ v .plain (h1 v (List.mem_cons_self ..)), hcell]; simp [row_frozen hb]
      simp only [storeCells, Sem.run_bind, add_add, hst, Result.andThen_ok]
      simpa [add_add] using hr
    · have hlist : (xs.set (off + i) v).take (off + (i + 1)) ++ vs ++ (xs.set (off + i) v).drop (off + (i + 1) + vs.length) = xs.take (off + i) ++ v :: vs ++ xs.drop (off + i + (v :: vs).length) := by
        rw [← Nat.add_assoc, List.take_succ_eq_append_getElem (by simp; omega), List.drop_set, if_pos (by omega)]
        simp [List.take_set_of_le (Nat.le_refl _), Nat.add_assoc, Nat.add_comm 1]
      rw [hlist] at hm'
      have := hm.mod 0 rfl hm'
      simpa using this

theorem zeroCells_one (z : Value) (n : Nat) : (Builtin.zeroCells #[z] n).toList = List.replicate n z := by
  apply List.ext_getElem?
  intro j
  by_cases hj : j < n
  · simp [Builtin.zeroCells, hj, Nat.mod_one]
  · simp [Builtin.zeroCells, hj]

section
variable {P : Program} {c : Code} {K : Act → World → Prop} {Q : Exit → Act → World → Prop} {a : Act} {w w0 : World} {S : Nat → Prop} {L : List Res} {k k' N : Nat} {env : Env}
variable {d : Option Nat} {ty : Nat} {g : Option (Nat × Bool)}

/-- 'clear(s[off:])' on a row of the call's own, elements of one cell. -/
theorem From_clear {t : TypeId} {x : Operand} (hk : coreAt c k = some (d, .call { callee := .builtin .clear, args := #[x], argTypes := #[t] }, ty, g)) (hF : Fr a N env) (hg : guardE c g env = some true) (hd : okd d N = true) (hk' : k + 1 = k')
    {e : Nat} {z : Value} (ht : P.underlying t = some (.slice e)) (hi : (P.info? e).map (fun i => (i.size, i.zero)) = some (1, some z)) (hz : z.oneCell' = true)
    {ad : Addr} {off m cap' n cap : Nat} {xs : List Value} (hx : ev env x = some (.slice (some (ad.add off)) m cap'))
    (hM : Mem S w0 w L) (i : Nat) (hL : L[i]? = some (.row e 1 (some ad) n cap xs)) (hm : off + m ≤ n)
    (h : ∀ w', Mem S w0 w' (L.set i (.row e 1 (some ad) n cap (xs.take off ++ List.replicate m z ++ xs.drop (off + m)))) → True → ∀ a', a' = a.put d undef → Fr a' N (putE env d undef) → From P c K Q k' a' w') : From P c K Q k a w := by
  subst hk'
  have hrow := hM.get i hL
  have hlen := row_len hrow
  obtain ⟨w', hr, hmm⟩ := storeCells_row (P := P) (List.replicate m z) off 0 (by intro v hv; rw [List.eq_of_mem_replicate hv]; exact hz) hrow (by simp; omega)
  simp only [Nat.add_zero, List.length_replicate] at hmm
  refine From_val hk hF hg (v := undef) (w' := w') (fun o ho hty => ?_) (h w' (by simpa using hM.mod i hL hmm) trivial _ rfl (hF.put hd _))
  unfold execOp
  rw [ho]
  cases hi' : P.info? e with
  | none => simp [hi'] at hi
  | some inf =>
    simp only [hi', Option.map_some, Option.some.injEq, Prod.mk.injEq] at hi
    obtain ⟨hs, hzz⟩ := hi
    have hz0 : (zeroValue e).run P w = .ok z w := by simp [zeroValue, typeInfo, hi', hzz]
    simp only [resolve, invoke, builtin, Sem.run_bind, Sem.run_pure, Result.andThen_ok, List.map_toArray, List.map_cons, List.map_nil, hF.ev hx, Builtin.clear_]
    simp only [show (#[t] : Array TypeId)[0]? = some t from rfl, show (#[Value.slice (some (ad.add off)) m cap'] : Array Value)[0]? = some (.slice (some (ad.add off)) m cap') from rfl, Sem.run_bind, run_underlying ht, Result.andThen_ok]
    cases m with
    | zero =>
      simp only [List.replicate_zero, storeCells, Sem.run_pure, Result.ok.injEq, true_and] at hr
      subst hr
      simp [undef]
    | succ m =>
      simp only [Sem.run_bind, hz0, Result.andThen_ok, one_cells hz, zeroCells_one, hr]
      rfl
end

/-- The first elements of a row. -/
theorem Mem.take_row {S : Nat → Prop} {w0 w : World} {L : List Res} {e size n cap : Nat} {A : Option Addr} {xs : List Value} (hM : Mem S w0 w L) (i : Nat) (hL : L[i]? = some (.row e size A n cap xs)) (m : Nat) (hm : m ≤ n) :
    Mem S w0 w (L.set i (.row e size A m cap (xs.take (m * size)))) := by
  refine hM.say i hL (fun h => ?_) (fun g hg => hg)
  have hlen := row_len h
  rcases h.2 with ⟨h1, h2⟩ | ⟨g, cap', cur, hv, hb, hg, hnc, hcm, hcs, ht⟩
  · injection h1 with h1 h3 h4
    have : m = 0 := by omega
    subst h1
    subst h4
    subst this
    refine ⟨by simp, .inl ⟨rfl, rfl⟩⟩
  · injection hv with hv h2 h3
    subst hv
    subst h3
    have hms : m * size ≤ n * size := Nat.mul_le_mul_right _ hm
    refine ⟨by rw [List.length_take, hlen]; omega, .inr ⟨g, cap, cur, rfl, hb, hg, by omega, hcm, hcs, ?_⟩⟩
    rw [← ht, List.take_take]
    congr 1
    omega

theorem row_nil_of {w : World} {e size n c : Nat} {A : Option Addr} {xs : List Value} (h : (Res.row e size A n c xs).holds w) (hA : A = none) : n = 0 ∧ c = 0 ∧ xs = [] := by
  subst hA
  rcases h.2 with ⟨h1, h2⟩ | ⟨g, cap', cur, hv, _⟩
  · injection h1 with _ _ h3
    have := row_len h
    subst h2
    exact ⟨rfl, h3, List.eq_nil_of_length_eq_zero (by simpa using this)⟩
  · injection hv with hv; cases hv
end Go.Mor

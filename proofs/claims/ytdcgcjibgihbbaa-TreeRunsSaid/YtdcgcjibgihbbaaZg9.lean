/-
  Texts of the proof, part 9.
-/
import Derived.Test.YtdcgcjibgihbbaaZg8
import Derived.Laws.IdiomCopy
import Derived.Laws.Cover3
import Derived.Laws.StructEq
import Derived.ChangeKeysEq
set_option maxRecDepth 10000
namespace Go.Mor
open Go.RowKit
section
variable {P : Program} {t : TypeId}
end
section
variable {k m : Nat}
end
section
variable {P : Program} {c : Code} {K : Act → World → Prop} {Q : Exit → Act → World → Prop} {a : Act} {w w0 : World} {S : Nat → Prop} {L : List Res} {k k' : Nat} {N : FN} {env : Env}
variable {d : Option Nat} {ty : Nat} {g : Option (Nat × Bool)}
end
end Go.Mor
namespace Go.Mor
open Go.RowKit
def Spec.ptr (xs : List Value) : Spec := .any (fun v w => ∃ ad, v = .pointer (some ad) ∧ (Res.rd (some ad) xs).holds w)
  (fun _ _ _ hK ⟨ad, hv, h⟩ => ⟨ad, hv, (Res.rd (some ad) xs).stable (fun g hg => hK.kept g ((Res.rd (some ad) xs).lt h hg) (fun h => h)) h⟩)
def s2aE (P : Program) (c : Code) (N : FN) (env : Env) (k : Nat) : Option (Option Nat × Nat × Value) := match coreAt c k with
  | some (d, .sliceToArrayPointer t x, _, g) => match guardE c g env, okd d N, ev env x, P.underlying t with
    | some true, true, some v, some (.array m _) => some (d, m, v)
    | _, _, _, _ => none
  | _ => none
def bnE (c : Code) (N : FN) (env : Env) (k : Nat) : Option (Option Nat × BinOp × TypeId × Value × Value) := match coreAt c k with
  | some (d, .binOp op t x y _, _, g) => match guardE c g env, okd d N, ev env x, ev env y with
    | some true, true, some u, some v => some (d, op, t, u, v)
    | _, _, _, _ => none
  | _ => none
section
variable {P : Program} {c : Code} {Q : Exit → Act → World → Prop} {N : FN} {i : Nat} {env0 : Env} {wr : World} {sp : Nat → Spec}
theorem dA2 (j n : Nat) (xs : List Value) (hx : xs ≠ []) {m : Nat} (hmn : m ≤ n) (hj : memN (predsOf c i) j = true := by kernel_rfl) (hs : sp j = Spec.sl n xs := by rfl) (hsi : sp i = Spec.ptr xs := by rfl)
    (hg : ∀ vs, gtE c i (predE c i sp vs env0) = some true := by intro _; kernel_rfl) (hk : ∀ vs, s2aE P (one c i) N (predE c i sp vs env0) 0 = some (dstAt c i, m, vs j) := by intro _; kernel_rfl) (he : coreAt (one c i) 1 = none := by kernel_rfl) : OpOK P c Q N env0 wr sp i := by
  refine op_of hg (fun w vs hK hp a hF => ?_)
  have h0 := hp j (memN_iff.1 hj)
  rw [hs] at h0
  obtain ⟨A, cc, hv, hr⟩ := h0
  have hA : ∃ ad, A = some ad := by
    cases xs with
    | nil => exact absurd rfl hx
    | cons x r => obtain ⟨ad, h1, _⟩ := hr 0 x rfl; exact ⟨ad, h1⟩
  obtain ⟨ad, rfl⟩ := hA
  have h1 := hk vs
  unfold s2aE at h1
  split at h1
  · rename_i g0
    split at h1
    · rename_i v0 m0 e0 g1 g2 g3 g4
      simp only [Option.some.injEq, Prod.mk.injEq] at h1
      obtain ⟨rfl, rfl, rfl⟩ := h1
      refine From_same g0 hF g1 g2 rfl (fun o ho => ?_) (fun a' ea _ => From_end he ⟨_, ea, Kp.refl w, ?_⟩) (v := .pointer (some ad))
      · unfold execOp
        rw [ho]
        have hra := run_arrayAt (P := P) w _ e0 m0 (some ad) n cc g4 hmn
        simp only [hF.ev g3, hv, Sem.run_bind, hra, Result.andThen_ok]
        rfl
      · rw [hsi]; exact ⟨ad, rfl, hr⟩
    · cases h1
  · cases h1
end
end Go.Mor
namespace Go.Mor
open Go.RowKit
def boI (op : BinOp) (kd : IntKind) (a b : Int) : Option Int := match op with
  | .add => some (kd.wrap (a + b))
  | .sub => some (kd.wrap (a - b))
  | .mul => some (kd.wrap (a * b))
  | .and => some (kd.wrap ((BitVec.ofInt kd.bits a &&& BitVec.ofInt kd.bits b).toNat : Int))
  | .or => some (kd.wrap ((BitVec.ofInt kd.bits a ||| BitVec.ofInt kd.bits b).toNat : Int))
  | .xor => some (kd.wrap ((BitVec.ofInt kd.bits a ^^^ BitVec.ofInt kd.bits b).toNat : Int))
  | _ => none
theorem run_boI {P : Program} {op : BinOp} {kd : IntKind} {a b z : Int} (h : boI op kd a b = some z) (t : TypeId) (w : World) : (binOp op t (.int kd a) (.int kd b)).run P w = .ok (.int kd z) w := by
  cases op <;> simp only [boI] at h <;> first
    | (cases h; done)
    | (injection h with h; subst h; simp [binOp, Op.intArith, Op.intBits])
def boP (op : BinOp) (kd : IntKind) (a b : Int) : Option Int := match op with
  | .quo => some (kd.wrap (a.tdiv b))
  | .rem => some (a.tmod b)
  | _ => none
theorem run_boP {P : Program} {op : BinOp} {kd : IntKind} {a b z : Int} (h : boP op kd a b = some z) (hb : b ≠ 0) (t : TypeId) (w : World) : (binOp op t (.int kd a) (.int kd b)).run P w = .ok (.int kd z) w := by
  cases op <;> simp only [boP] at h <;> first
    | (cases h; done)
    | (injection h with h; subst h; simp [binOp, Op.intDiv, hb])
def boS (op : BinOp) (kd : IntKind) (a b : Int) : Option Int := match op with
  | .shl => some (kd.wrap (a * 2 ^ min b.toNat kd.bits))
  | .shr => some (a.fdiv (2 ^ min b.toNat kd.bits))
  | _ => none
theorem run_boS {P : Program} {op : BinOp} {kd k2 : IntKind} {a b z : Int} (h : boS op kd a b = some z) (hb : 0 ≤ b) (t : TypeId) (w : World) : (binOp op t (.int kd a) (.int k2 b)).run P w = .ok (.int kd z) w := by
  have hn : ¬ b < 0 := by omega
  cases op <;> simp only [boS] at h <;> first
    | (cases h; done)
    | (injection h with h; subst h; simp [binOp, Op.shift, hn])
section
variable {P : Program} {c : Code} {K : Act → World → Prop} {Q : Exit → Act → World → Prop} {w w0 : World} {S : Nat → Prop} {L : List Res} {k : Nat} {N : FN} {env : Env}
theorem From_bin {a : Act} {d : Option Nat} {op : BinOp} {t : TypeId} {kd k2 : IntKind} {i j z : Int} (hF : Fr a N env) (hk : bnE c N env k = some (d, op, t, .int kd i, .int k2 j))
    (hr : (binOp op t (.int kd i) (.int k2 j)).run P w = .ok (.int kd z) w) (h : ∀ a', a' = a.put d (.int kd z) → Fr a' N (putE env d (.int kd z)) → From P c K Q (k + 1) a' w) : From P c K Q k a w := by
  unfold bnE at hk
  split at hk
  · rename_i g0
    split at hk
    · rename_i g1 g2 g3 g4
      simp only [Option.some.injEq, Prod.mk.injEq] at hk
      obtain ⟨e1, e2, e3, e4, e5⟩ := hk
      refine From_same g0 hF g1 (by rw [e1] at g2; exact e1 ▸ g2) rfl (fun o ho => ?_) (by rw [e1]; exact h)
      unfold execOp
      rw [ho, e2, e3]
      have hq : ∀ x y, (eqGuard op t x y (.int kd i) (.int k2 j)).run P w = .ok () w := by
        intro x y
        simp only [eqGuard]
        split <;> simp
      simp only [hF.ev g3, hF.ev g4, e4, e5, Sem.run_bind, hq, hr, Result.andThen_ok]
      rfl
    · cases hk
  · cases hk
def biE (f : BinOp → IntKind → Int → Int → Option Int) (c : Code) (N : FN) (env : Env) (k : Nat) : Option (Option Nat × IntKind × IntKind × Int × Int) := match bnE c N env k with
  | some (d, op, _, .int kd i, .int k2 j) => match f op kd i j with
    | some z => some (d, kd, k2, j, z)
    | none => none
  | _ => none
theorem bi_spec {f : BinOp → IntKind → Int → Int → Option Int} {d : Option Nat} {kd k2 : IntKind} {j z : Int} (h : biE f c N env k = some (d, kd, k2, j, z)) : ∃ op t i, bnE c N env k = some (d, op, t, .int kd i, .int k2 j) ∧ f op kd i j = some z := by
  unfold biE at h
  split at h
  · rename_i h0
    split at h
    · rename_i h1
      simp only [Option.some.injEq, Prod.mk.injEq] at h
      obtain ⟨rfl, rfl, rfl, rfl, rfl⟩ := h
      exact ⟨_, _, _, h0, h1⟩
    · cases h
  · cases h
theorem zbi (kd : IntKind) (z : Int) (j : Int) (h : ∀ a, Fr a N (putE env (dstAt c k) (.int kd z)) → From P c K Q (k + 1) a w) (hk : biE boI c N env k = some (dstAt c k, kd, kd, j, z) := by kernel_rfl) : ∀ a, Fr a N env → From P c K Q k a w := fun _ hF => by
  obtain ⟨op, t, i, h0, h1⟩ := bi_spec hk
  exact From_bin hF h0 (run_boI h1 t w) (fun a' _ => h a')
theorem zbd (kd : IntKind) (z : Int) (j : Int) (hj : j ≠ 0) (h : ∀ a, Fr a N (putE env (dstAt c k) (.int kd z)) → From P c K Q (k + 1) a w) (hk : biE boP c N env k = some (dstAt c k, kd, kd, j, z) := by kernel_rfl) : ∀ a, Fr a N env → From P c K Q k a w := fun _ hF => by
  obtain ⟨op, t, i, h0, h1⟩ := bi_spec hk
  exact From_bin hF h0 (run_boP h1 hj t w) (fun a' _ => h a')
theorem zbs (kd k2 : IntKind) (z : Int) (j : Int) (hj : 0 ≤ j) (h : ∀ a, Fr a N (putE env (dstAt c k) (.int kd z)) → From P c K Q (k + 1) a w) (hk : biE boS c N env k = some (dstAt c k, kd, k2, j, z) := by kernel_rfl) : ∀ a, Fr a N env → From P c K Q k a w := fun _ hF => by
  obtain ⟨op, t, i, h0, h1⟩ := bi_spec hk
  exact From_bin hF h0 (run_boS h1 hj t w) (fun a' _ => h a')
def unE (c : Code) (N : FN) (env : Env) (k : Nat) : Option (Option Nat × UnOp × IntKind × Int) := match coreAt c k with
  | some (d, .unOp op _ x, _, g) => match guardE c g env, okd d N, ev env x with
    | some true, true, some (.int kd i) => some (d, op, kd, i)
    | _, _, _ => none
  | _ => none
def unI (op : UnOp) (kd : IntKind) (a : Int) : Option Int := match op with
  | .neg => some (kd.wrap (0 - a))
  | .xor => some (kd.wrap ((BitVec.ofInt kd.bits (if kd.signed then -1 else kd.max) ^^^ BitVec.ofInt kd.bits a).toNat : Int))
  | _ => none
theorem zui (op : UnOp) (i : Int) (kd : IntKind) (z : Int) (h : ∀ a, Fr a N (putE env (dstAt c k) (.int kd z)) → From P c K Q (k + 1) a w) (hk : unE c N env k = some (dstAt c k, op, kd, i) := by kernel_rfl)
    (hz : unI op kd i = some z := by kernel_rfl) : ∀ a, Fr a N env → From P c K Q k a w := fun a hF => by
  unfold unE at hk
  split at hk
  · rename_i g0
    split at hk
    · rename_i g1 g2 g3
      simp only [Option.some.injEq, Prod.mk.injEq] at hk
      obtain ⟨rfl, rfl, rfl, rfl⟩ := hk
      refine From_unI g0 hF g1 g2 rfl g3 (z := .int _ z) (fun w => ?_) (fun a' _ => h a')
      unfold unI at hz
      split at hz
      · injection hz with hz; subst hz; simp [Op.unary, Op.intArith]
      · injection hz with hz; subst hz; simp [Op.unary, Op.intBits]
      · cases hz
    · cases hk
  · cases hk
def cvE (P : Program) (c : Code) (N : FN) (env : Env) (k : Nat) : Option (Option Nat × IntKind × Int) := match coreAt c k with
  | some (d, .convert t t' x, _, g) => match guardE c g env, okd d N, ev env x, P.underlying t, P.underlying t' with
    | some true, true, some (.int _ i), some (.int _), some (.int kd) => some (d, kd, i)
    | _, _, _, _, _ => none
  | _ => none
theorem zcv (i : Int) (kd : IntKind) (z : Int) (h : ∀ a, Fr a N (putE env (dstAt c k) (.int kd z)) → From P c K Q (k + 1) a w) (hz : kd.wrap i = z) (hk : cvE P c N env k = some (dstAt c k, kd, i) := by kernel_rfl) : ∀ a, Fr a N env → From P c K Q k a w := fun a hF => by
  unfold cvE at hk
  split at hk
  · rename_i g0
    split at hk
    · rename_i g1 g2 g3 g4 g5
      simp only [Option.some.injEq, Prod.mk.injEq] at hk
      obtain ⟨rfl, rfl, rfl⟩ := hk
      exact From_conv g0 hF g1 g2 rfl g3 g4 g5 hz (fun a' _ => h a')
    · cases hk
  · cases hk
end
section
variable {P : Program} {c : Code} {Q : Exit → Act → World → Prop} {N : FN} {i : Nat} {env0 : Env} {wr : World} {sp : Nat → Spec}
theorem dB (kd : IntKind) (z y : Int) (hv : sp i = .det (.int kd z) := by rfl) (hg : ∀ vs, gtE c i (predE c i sp vs env0) = some true := by intro _; kernel_rfl)
    (hk : ∀ vs, biE boI (one c i) N (predE c i sp vs env0) 0 = some (dstAt c i, kd, kd, y, z) := by intro _; kernel_rfl) (he : coreAt (one c i) 1 = none := by kernel_rfl) : OpOK P c Q N env0 wr sp i := by
  refine op_of hg (fun w vs hK hp a hF => ?_)
  obtain ⟨op, t, x, h0, h1⟩ := bi_spec (hk vs)
  exact From_bin hF h0 (run_boI h1 t w) (fun a' ea _ => From_end he ⟨_, ea, Kp.refl w, by rw [hv]; rfl⟩)
theorem dE {f : FuncId} {vs : List Value} {u u' : Value} {Ψ : Value → World → Prop} (hc : ∀ w, Kp wr w → Calls P f vs.toArray w (REnds (fun v w' => v = u ∧ Mem noS w w' []) Ψ)) (hq : ∀ v w', Ψ v w' → ∀ a, a.defers = N.D → Q (pan v) a w') (hu : u = u') (hv : sp i = .det u' := by rfl)
    (hg : ∀ vs, gtE c i (predE c i sp vs env0) = some true := by intro _; kernel_rfl)
    (hk : ∀ us, clE2 P (one c i) N (predE c i sp us env0) 0 = some (dstAt c i, f, vs) := by intro _; kernel_rfl) (he : coreAt (one c i) 1 = none := by kernel_rfl) : OpOK P c Q N env0 wr sp i := by
  refine op_of hg (fun w us hK hp a hF => ?_)
  refine From_clE _ f vs hF (hk us) (hc w hK) (fun v w' hv' a' ea _ => From_end he ⟨v, ea, hv'.2, ?_⟩) (fun v w' hv' => hq v w' hv' a hF.defers)
  rw [hv, hv'.1]; exact hu
end
end Go.Mor
namespace Go.Mor
open Go.RowKit
def Apart (l : List Res) : Prop := l.Pairwise (fun r s => ∀ g, r.fp g → ¬ s.fp g)
def Res.pk (l : List Res) : Res where
  fp k := ∃ r, r ∈ l ∧ r.fp k
  holds w := (∀ r, r ∈ l → r.holds w) ∧ Apart l
  stable := fun h hw => ⟨fun r hr => r.stable (fun g hg => h g ⟨r, hr, hg⟩) (hw.1 r hr), hw.2⟩
  lt := fun ⟨h1, _⟩ ⟨r, hr, hg⟩ => r.lt (h1 r hr) hg
section
variable {S : Nat → Prop} {w0 w w' : World} {l l' L : List Res} {r : Res}
theorem Mem.unpk (h : (Res.pk l).holds w) : Mem (Res.pk l).fp w w l :=
  ⟨rfl, rfl, rfl, Nat.le_refl _, fun _ _ _ => rfl, fun r hr => ⟨h.1 r hr, fun _ hg => .inl ⟨r, hr, hg⟩⟩, h.2⟩
theorem Mem.pk_holds (h : Mem S w0 w (l ++ L)) : (Res.pk l).holds w := ⟨fun r hr => (h.own r (List.mem_append_left _ hr)).1, (List.pairwise_append.1 h.apart).1⟩
theorem Mem.pack (h : Mem S w0 w (l ++ L)) : Mem S w0 w (.pk l :: L) := by
  obtain ⟨h1, h2, h3⟩ := List.pairwise_append.1 h.apart
  refine ⟨h.os, h.tape, h.output, h.size, h.kept, fun r hr => ?_, List.pairwise_cons.2 ⟨?_, h2⟩⟩
  · rcases List.mem_cons.1 hr with rfl | hr
    · exact ⟨h.pk_holds, fun g ⟨q, hq, hg⟩ => (h.own q (List.mem_append_left _ hq)).2 g hg⟩
    · exact h.own r (List.mem_append_right _ hr)
  · rintro r hr g ⟨q, hq, hg⟩
    exact h3 q hq r hr g hg
theorem Mem.unpack (h : Mem S w0 w (.pk l :: L)) : Mem S w0 w (l ++ L) := by
  obtain ⟨h1, h2⟩ := List.pairwise_cons.1 h.apart
  obtain ⟨⟨h3, h4⟩, h5⟩ := h.own _ (List.mem_cons_self ..)
  refine ⟨h.os, h.tape, h.output, h.size, h.kept, fun r hr => ?_, List.pairwise_append.2 ⟨h4, h2, fun q hq r hr g hg => h1 r hr g ⟨q, hq, hg⟩⟩⟩
  rcases List.mem_append.1 hr with hr | hr
  · exact ⟨h3 r hr, fun g hg => h5 g ⟨r, hr, hg⟩⟩
  · exact h.own r (List.mem_cons_of_mem _ hr)
theorem Mem.mdk (h : Mem S w0 w (l ++ L)) (h' : Mem (Res.pk l).fp w w' l') : Mem S w0 w' (l' ++ L) := by
  have h1 : Mem (Res.pk l).fp w w' (l' ++ []) := by rw [List.append_nil]; exact h'
  have h2 := h.pack.mod 0 rfl h1.pack
  exact Mem.unpack (by simpa using h2)
theorem Mem.mdk' (h : Mem S w0 w (l ++ L)) {Lr : List Res} (h' : Mem (Res.pk l).fp w w' (l' ++ Lr)) : Mem S w0 w' (l' ++ (L ++ Lr)) := by
  have h2 := h.pack.mod 0 rfl h'.pack
  exact Mem.unpack (by simpa using h2)
theorem RO.pk_at (hA : RO S w0 r) (h : Mem S w0 w (l ++ L)) : RO (Res.pk l).fp w r := by
  refine ⟨h.ro hA, fun g hg ⟨q, hq, hgq⟩ => ?_⟩
  have h1 := r.lt hA.1 hg
  rcases (h.own q (List.mem_append_left _ hq)).2 g hgq with h2 | h2
  · exact hA.2 g hg h2
  · omega
theorem RO.pk_own (h : Mem S w0 w (l ++ L)) (i : Nat) (hi : L[i]? = some r) : RO (Res.pk l).fp w r := by
  have hm := List.mem_of_getElem? hi
  refine ⟨(h.own r (List.mem_append_right _ hm)).1, fun g hg ⟨q, hq, hgq⟩ => ?_⟩
  exact (List.pairwise_append.1 h.apart).2.2 q hq r hm g hgq hg
end
theorem setCells_row {e n c : Nat} {g : Nat} : ∀ (xs : List Value) (o : Nat) (cs : List Value) (w : World), (Res.row e 1 (some ⟨g, 0, none⟩) n c cs).holds w → o + xs.length ≤ cs.length →
    Mem (Res.row e 1 (some ⟨g, 0, none⟩) n c cs).fp w (w.setCells g o xs) [.row e 1 (some ⟨g, 0, none⟩) n c (cs.take o ++ xs ++ cs.drop (o + xs.length))]
  | [], o, cs, w, hb, _ => by simpa [World.setCells] using Mem.initS hb
  | y :: ys, o, cs, w, hb, hl => by
    simp only [List.length_cons] at hl
    have hm := Mem.set_row (j := o) hb y
    rw [add_blk] at hm
    have ih := setCells_row ys (o + 1) (cs.set o y) (w.setCell ⟨g, o, none⟩ y) (hm.get 0 rfl) (by simp; omega)
    have e : (cs.set o y).take (o + 1) ++ ys ++ (cs.set o y).drop (o + 1 + ys.length) = cs.take o ++ (y :: ys) ++ cs.drop (o + (y :: ys).length) := by
      have e1 : (cs.set o y).take (o + 1) = cs.take o ++ [y] := by
        have : o < (cs.set o y).length := by simp; omega
        rw [List.take_succ_eq_append_getElem this]
        simp [List.take_set_of_le]
      have e2 : (cs.set o y).drop (o + 1 + ys.length) = cs.drop (o + (y :: ys).length) := by
        rw [List.drop_set_of_lt (by omega), List.length_cons, show o + 1 + ys.length = o + (ys.length + 1) by omega]
      rw [e1, e2]
      simp
    rw [e] at ih
    exact hm.mod 0 rfl ih
section
variable {P : Program} {c : Code} {K : Act → World → Prop} {Q : Exit → Act → World → Prop} {a : Act} {w w0 : World} {S : Nat → Prop} {L : List Res} {k k' : Nat} {N : FN} {env : Env} {d : Option Nat} {ty : Nat} {g : Option (Nat × Bool)}
theorem From_copyR {t u : TypeId} {x y : Operand} (hk : coreAt c k = some (d, .call { callee := .builtin .copy, args := #[x, y], argTypes := #[t, u] }, ty, g)) (hF : Fr a N env) (hg : guardE c g env = some true) (hd : okd d N = true) (hk' : k + 1 = k')
    {e e' b n dn dc m cap rc : Nat} {A : Option Addr} {xs cs : List Value} (ht : P.underlying t = some (.slice e)) (hs : (P.info? e).map (·.size) = some 1) (hx : ev env x = some (.slice (some ⟨b, 0, none⟩) dn dc)) (hy : ev env y = some (.slice A m cap))
    (hM : Mem S w0 w L) (i : Nat) (hL : L[i]? = some (.row e' 1 (some ⟨b, 0, none⟩) n rc cs)) (hsrc : (Res.rd A xs).holds w) (hn : m = xs.length) (hnd : m ≤ dn) (hl : xs.length ≤ cs.length) (h1 : ∀ v ∈ xs, v.oneCell' = true)
    (h : ∀ w', Mem S w0 w' (L.set i (.row e' 1 (some ⟨b, 0, none⟩) n rc (xs ++ cs.drop xs.length))) → ∀ a', a' = a.put d (goInt xs.length) → Fr a' N (putE env d (goInt xs.length)) → From P c K Q k' a' w') : From P c K Q k a w := by
  subst hk'
  have hb := hM.get i hL
  have hmin : Nat.min m dn = m := Nat.min_eq_left hnd
  have hrun : (Builtin.copy_ #[t, u] ty #[.slice (some ⟨b, 0, none⟩) dn dc, .slice A m cap]).run P w = .ok (goInt xs.length) (w.setCells b 0 xs) := by
    cases xs with
    | nil =>
      have : m = 0 := hn
      subst this
      exact run_copy_none w t u ty e _ A dn dc 0 cap ht hs (by simp)
    | cons v vs =>
      obtain ⟨ad, hA, _⟩ := hsrc 0 v rfl
      subst hA
      refine run_copy_cells w t u ty e b 0 dn dc ad m cap (v :: vs) ht hs (by rw [hmin, hn]) (fun j u hj => ?_) (fun j hj => ?_) (fun j hj => ?_) h1
      · obtain ⟨a', ha', hc⟩ := hsrc j u hj
        injection ha' with ha'
        subst ha'
        exact hc
      · obtain ⟨a', ha', hc⟩ := row_rd hb j cs[j] (by rw [List.getElem?_eq_getElem])
        injection ha' with ha'
        subst ha'
        rw [add_blk] at hc
        rw [Nat.zero_add, hc]; rfl
      · have h2 := row_frozen hb (0 + j)
        rw [add_blk] at h2
        exact h2
  have hm := setCells_row xs 0 cs w hb (by omega)
  have hm2 := hM.mod i hL hm
  refine From_val hk hF hg (v := goInt xs.length) (w' := w.setCells b 0 xs) (fun o ho hty => ?_) (h _ (by simpa using hm2) _ rfl (hF.put hd _))
  unfold execOp
  rw [ho, hty]
  simp only [resolve, invoke, builtin, Sem.run_bind, Sem.run_pure, Result.andThen_ok, List.map_toArray, List.map_cons, List.map_nil, hF.ev hx, hF.ev hy, hrun]
end
end Go.Mor
namespace Go.Mor
open Go.RowKit
def u8s (l : List Int) : List Value := l.map (Value.int .u8)
theorem u8s_len (l : List Int) : (u8s l).length = l.length := by simp [u8s]
theorem u8s_append (l m : List Int) : u8s (l ++ m) = u8s l ++ u8s m := by simp [u8s]
structure RC where
  E : Env0
  r : Nat
  fA : Option Addr
  fc : Nat
  sA : Option Addr
  sc : Nat
  mB : Nat
  dB : Nat
  mG : Nat
  iA : Option Addr
  ic : Nat
  oP : Addr
def inAt (A : Option Addr) (cap : Nat) : Nat → Option Addr × Nat
  | 0 => (A, cap)
  | p + 1 => ((if (inAt A cap p).2 = 1 then (inAt A cap p).1 else (inAt A cap p).1.map (·.add (1 * 1))), (inAt A cap p).2 - 1)
theorem inAt_cap (A : Option Addr) (cap p : Nat) : (inAt A cap p).2 = cap - p := by
  induction p with
  | zero => rfl
  | succ p ih => show (inAt A cap p).2 - 1 = _; omega
theorem inAt_at (A : Option Addr) (cap : Nat) : ∀ p, p < cap → (inAt A cap p).1 = A.map (·.add p)
  | 0, _ => by cases A <;> simp [inAt, Addr.add]
  | p + 1, h => by
    show (if (inAt A cap p).2 = 1 then _ else _) = _
    have h1 := inAt_cap A cap p
    rw [if_neg (by omega), inAt_at A cap p (by omega)]
    cases A with
    | none => rfl
    | some a => simp only [Option.map_some, addr_add]
def vK (l : List (ByteArray × Int)) : List (ByteArray × Value) := l.map (fun p => (p.1, .int .i64 p.2))
theorem lkp_vK (l : List (ByteArray × Int)) (s : ByteArray) : lkp (vK l) s = (lkp l s).map (Value.int .i64) := by
  induction l with
  | nil => rfl
  | cons x r ih =>
    obtain ⟨k, v⟩ := x
    have e1 : lkp (vK ((k, v) :: r)) s = match s == k with | true => some (.int .i64 v) | false => lkp (vK r) s := rfl
    have e2 : lkp ((k, v) :: r) s = match s == k with | true => some v | false => lkp r s := rfl
    rw [e1, e2]
    cases s == k with
    | true => rfl
    | false => exact ih
section
variable {S : Nat → Prop} {w : World} {C : RC}
end
abbrev unitV (_ : Unit) : Value := .tuple #[]
abbrev intV (x : Int) : Value := .int .i64 x
theorem in_some {w : World} {A : Option Addr} {cap : Nat} {l : List Int} (h : (Res.rd A (u8s l)).holds w) {p : Nat} (hp : p < l.length) (hc : l.length ≤ cap) : ∃ ad, (inAt A cap p).1 = some ad := by
  obtain ⟨ad, hA⟩ := rd_some h (by rw [u8s_len]; omega)
  rw [inAt_at A cap p (by omega), hA]
  exact ⟨_, rfl⟩
theorem in_cell {w : World} {A : Option Addr} {cap : Nat} {l : List Int} (h : (Res.rd A (u8s l)).holds w) {p : Nat} (hp : p < l.length) (hc : l.length ≤ cap) {ad : Addr} (had : (inAt A cap p).1 = some ad) :
    w.cell? (ad.add ((0 : Int).toNat * 1)) = some (.int .u8 (l.getD p 0)) := by
  obtain ⟨ad0, hA⟩ := rd_some h (by rw [u8s_len]; omega)
  rw [inAt_at A cap p (by omega), hA] at had
  injection had with had
  subst had
  have := rd_get h hA (j := p) (v := .int .u8 (l.getD p 0)) (by simp [u8s, List.getD, hp])
  show w.cell? ((ad0.add p).add 0) = _
  rw [addr_add]
  exact this
end Go.Mor
namespace Go.Mor
open Go.RowKit
def tailOk (c : Code) (m : Nat) : Bool := (List.range (opsOf c).size).all fun i => Nat.blt i m || (List.range i).all (fun j => reach c (opsOf c).size i j)
theorem reach_lt {c : Code} (hpl : predsLt c = true) : ∀ {n j i : Nat}, j < (opsOf c).size → reach c n j i = true → i < j
  | 0, j, i, _, h => by simp [reach] at h
  | n + 1, j, i, hj, h => by
    have hp : ∀ k, k ∈ predsOf c j → k < j := by
      intro k hk
      simp only [predsLt, List.all_eq_true, List.mem_range] at hpl
      have := hpl j hj k hk
      simpa [Nat.blt_eq] using this
    simp only [reach, Bool.or_eq_true, List.any_eq_true] at h
    rcases h with h | ⟨k, hk, h⟩
    · exact hp i (memN_iff.1 h)
    · have h1 := hp k hk
      have := reach_lt hpl (by omega) h
      omega
theorem none_ready {c : Code} (hpl : predsLt c = true) {listed : Array Bool} (hsz : listed.size = (opsOf c).size) (hr : Region.ready .any (opsOf c) listed = []) : ∀ j, j < (opsOf c).size → listed.getD j false = true := by
  intro j
  induction j using Nat.strongRecOn with
  | _ j ih =>
    intro hj
    cases hq : listed.getD j false with
    | true => rfl
    | false =>
      exfalso
      have : j ∈ Region.ready .any (opsOf c) listed := by
        simp only [Region.ready, List.mem_filter, List.mem_range, Bool.and_eq_true, Bool.not_eq_true']
        have hjl : j < listed.size := by omega
        refine ⟨hj, ?_, ?_⟩
        · simp [Array.getD, hjl] at hq ⊢
          exact hq
        · have ho : (opsOf c)[j]? = some (opsOf c)[j] := by simp [hj]
          simp only [ho, Option.map_some, Option.getD_some]
          rw [Array.all_eq_true_iff_forall_mem]
          intro e he
          cases hb : Region.binds .any e with
          | false => rfl
          | true =>
            have hmem : e.on ∈ predsOf c j := by
              simp only [predsOf, ho, List.mem_map, List.mem_filter]
              exact ⟨e, ⟨Array.mem_toList_iff.2 he, hb⟩, rfl⟩
            have hlt : e.on < j := by
              simp only [predsLt, List.all_eq_true, List.mem_range] at hpl
              have := hpl j hj e.on hmem
              simpa [Nat.blt_eq] using this
            simp [ih e.on hlt (by omega)]
      rw [hr] at this
      simp at this
theorem ready_preds {c : Code} {listed : Array Bool} {i : Nat} (hr : i ∈ Region.ready .any (opsOf c) listed) : ∀ j, j ∈ predsOf c i → listed.getD j false = true := by
  obtain ⟨_, _, o, ho, hpre⟩ := ready_spec hr
  intro j hj
  simp only [predsOf, ho, List.mem_map, List.mem_filter] at hj
  obtain ⟨e, ⟨he, hb⟩, rfl⟩ := hj
  exact hpre e he hb
theorem ready_not {c : Code} {listed : Array Bool} (hsz : listed.size = (opsOf c).size) {i : Nat} (hr : i ∈ Region.ready .any (opsOf c) listed) : listed.getD i false = false := by
  obtain ⟨hlt, hnl, _⟩ := ready_spec hr
  have : i < listed.size := by omega
  simp [Array.getD, this] at hnl ⊢
  exact hnl
def restL (c : Code) (m : Nat) : Env → Env
  | [] => []
  | (t, v) :: r => match memN ((List.range m).filterMap (dstAt c)) t with
    | true => restL c m r
    | false => (t, v) :: restL c m r
theorem look_restL {c : Code} {m : Nat} : ∀ {env : Env} {t : Nat} {v : Value}, look (restL c m env) t = some v → (t, v) ∈ env ∧ ∀ j, j < m → dstAt c j ≠ some t
  | [], t, v, h => by simp [restL, look] at h
  | (k, u) :: r, t, v, h => by
    unfold restL at h
    cases hm : memN ((List.range m).filterMap (dstAt c)) k with
    | true =>
      rw [hm] at h
      obtain ⟨h1, h2⟩ := look_restL h
      exact ⟨List.mem_cons_of_mem _ h1, h2⟩
    | false =>
      rw [hm] at h
      simp only [look] at h
      cases hq : Nat.beq k t with
      | false =>
        rw [hq] at h
        obtain ⟨h1, h2⟩ := look_restL h
        exact ⟨List.mem_cons_of_mem _ h1, h2⟩
      | true =>
        rw [hq] at h
        injection h with h
        have := Nat.eq_of_beq_eq_true hq
        subst this
        subst h
        refine ⟨List.mem_cons_self .., fun j hj hdj => ?_⟩
        have : memN ((List.range m).filterMap (dstAt c)) k = true := memN_iff.2 (List.mem_filterMap.2 ⟨j, List.mem_range.2 hj, hdj⟩)
        rw [this] at hm
        cases hm
section
variable {P : Program} {c : Code} {K : Act → World → Prop} {Q : Exit → Act → World → Prop} {N : FN} {env0 : Env} {wr : World} {sp : Nat → Spec}
theorem lst_set {listed : Array Bool} {i j : Nat} (hi : i < listed.size) : (listed.setIfInBounds i true).getD j false = (decide (j = i) || listed.getD j false) := by
  by_cases e : i = j
  · subst e; simp [Array.getD_eq_getD_getElem?, hi]
  · have : ¬ j = i := fun h => e h.symm
    simp [Array.getD_eq_getD_getElem?, Array.getElem?_setIfInBounds_ne e, this]
theorem any_tail (hpl : predsLt c = true) {m : Nat} (ht : tailOk c m = true) : ∀ (n fuel k : Nat) (listed : Array Bool) (a : Act) (w : World), listed.size = (opsOf c).size → (opsOf c).size ≤ k + n → n ≤ fuel → m ≤ k → k ≤ (opsOf c).size →
    (∀ j, j < (opsOf c).size → listed.getD j false = decide (j < k)) → From P c K Q k a w → wpAny P .any (opsOf c) (Exit.then K Q) fuel listed a w := by
  intro n
  induction n with
  | zero =>
    intro fuel k listed a w hsz hs hf hmk hks hl h
    have hk : k = (opsOf c).size := by omega
    subst hk
    have hK : K a w := by
      unfold From at h
      rw [List.drop_eq_nil_of_le (by simp)] at h
      exact h
    have hno : ∀ i, ¬ i ∈ Region.ready .any (opsOf c) listed := fun i hi => by
      have h1 := ready_not hsz hi
      have h2 := (ready_spec hi).1
      rw [hl i h2] at h1
      simp [h2] at h1
    cases fuel with
    | zero => exact ⟨List.eq_nil_iff_forall_not_mem.2 hno, hK⟩
    | succ fuel => exact ⟨fun _ => hK, fun i hi => absurd hi (hno i)⟩
  | succ n ih =>
    intro fuel k listed a w hsz hs hf hmk hks hl h
    by_cases hk : k < (opsOf c).size
    · cases fuel with
      | zero => omega
      | succ fuel =>
        refine ⟨fun hr => ?_, fun i hi => ?_⟩
        · have := none_ready hpl hsz hr k hk
          rw [hl k hk] at this
          simp at this
        · have hin := ready_not hsz hi
          have hilt := (ready_spec hi).1
          have hik : i = k := by
            rw [hl i hilt] at hin
            have hge : k ≤ i := by simpa using hin
            rcases Nat.lt_or_eq_of_le hge with hgt | he
            · exfalso
              simp only [tailOk, List.all_eq_true, List.mem_range, Bool.or_eq_true] at ht
              have h1 : reach c (opsOf c).size i k = true := by
                rcases ht i hilt with h1 | h1
                · have : i < m := by simpa [Nat.blt_eq] using h1
                  omega
                · exact h1 k hgt
              cases hn : (opsOf c).size with
              | zero => omega
              | succ N' =>
                rw [hn] at h1
                simp only [reach, Bool.or_eq_true, List.any_eq_true] at h1
                rcases h1 with h1 | ⟨q, hq, h1⟩
                · have := ready_preds hi k (memN_iff.1 h1)
                  rw [hl k hk] at this
                  simp at this
                · have h2 := ready_preds hi q hq
                  have hqi : q < i := by
                    simp only [predsLt, List.all_eq_true, List.mem_range] at hpl
                    have := hpl i hilt q hq
                    simpa [Nat.blt_eq] using this
                  rw [hl q (by omega)] at h2
                  have h3 : q < k := by simpa using h2
                  have := reach_lt hpl (by omega) h1
                  omega
            · exact he.symm
          subst hik
          have ho : (opsOf c)[i]? = some (opsOf c)[i] := by simp [hk]
          generalize hoo : (opsOf c)[i] = o at ho
          unfold From at h
          rw [drop_at ho] at h
          unfold wpList at h
          have next : ∀ a' w', wpList P (opsOf c) (Exit.then K Q) ((opsOf c).toList.drop (i + 1)) a' w' → wpAny P .any (opsOf c) (Exit.then K Q) fuel (listed.setIfInBounds i true) a' w' := by
            intro a' w' h'
            refine ih fuel (i + 1) _ a' w' (by simpa using hsz) (by omega) (by omega) (by omega) (by omega) (fun j hj => ?_) h'
            rw [lst_set (by omega), hl j hj]
            by_cases e : j = i
            · subst e; simp
            · have : (j < i + 1) ↔ (j < i) := by omega
              simp [e, this]
          unfold wpOp
          rw [ho]
          simp only []
          split at h
          · rename_i hw
            rw [if_pos hw]
            exact h.imp (Oper.wp_mono next) id
          · rename_i hw
            rw [if_neg hw]
            exact next _ _ h
    · exact ih fuel k listed a w hsz (by omega) (by omega) hmk hks hl h
theorem draw_tail (hd : dstsOk c = true) (hdn : ∀ i d, dstAt c i = some d → d < N.n) (hpl : predsLt c = true) {m : Nat} (ht : tailOk c m = true) (hm : m ≤ (opsOf c).size) (hops : ∀ i, i < m → OpOK P c Q N env0 wr sp i)
    (hend : ∀ a w, (∀ listed : Array Bool, (∀ j, j < m → listed.getD j false = true) → (∀ j, m ≤ j → listed.getD j false = false) → Known c N env0 wr sp listed a w → From P c K Q m a w)) :
    ∀ (n fuel : Nat) (listed : Array Bool) (a : Act) (w : World), listed.size = (opsOf c).size → ((List.range (opsOf c).size).filter (fun j => !listed.getD j false)).length = n → n ≤ fuel → (∀ j, m ≤ j → listed.getD j false = false) → Known c N env0 wr sp listed a w →
      wpAny P .any (opsOf c) (Exit.then K Q) fuel listed a w := by
  intro n
  induction n using Nat.strongRecOn with
  | _ n ih =>
    intro fuel listed a w hsz hn hf hup hk
    by_cases hall : ∀ j, j < m → listed.getD j false = true
    · have hlen : (opsOf c).size ≤ m + n := by
        have h1 : ((List.range (opsOf c).size).filter (fun j => !listed.getD j false)).length = (opsOf c).size - m := by
          have e : (List.range (opsOf c).size).filter (fun j => !listed.getD j false) = (List.range (opsOf c).size).filter (fun j => decide (m ≤ j)) := by
            apply List.filter_congr
            intro j _
            by_cases hj : j < m
            · rw [hall j hj]; simp; omega
            · rw [hup j (by omega)]; simp; omega
          rw [e]
          have key : ∀ N, ((List.range N).filter (fun j => decide (m ≤ j))).length = N - m := by
            intro N
            induction N with
            | zero => simp
            | succ N ihN =>
              rw [List.range_succ, List.filter_append, List.length_append, ihN]
              by_cases h : m ≤ N
              · simp [h]; omega
              · simp [h]; omega
          exact key _
        omega
      refine any_tail hpl ht n fuel m listed a w hsz hlen hf (Nat.le_refl _) hm (fun j hj => ?_) (hend a w listed hall hup hk)
      by_cases h : j < m
      · rw [hall j h]; simp [h]
      · rw [hup j (by omega)]; simp [h]
    · have hpos : 0 < n := by
        rcases Nat.eq_zero_or_pos n with h0 | h0
        · exfalso
          apply hall
          intro j hj
          cases hq : listed.getD j false with
          | true => rfl
          | false =>
            have : j ∈ (List.range (opsOf c).size).filter (fun j => !listed.getD j false) := List.mem_filter.2 ⟨List.mem_range.2 (by omega), by rw [hq]; rfl⟩
            have := List.length_pos_of_mem this
            omega
        · exact h0
      cases fuel with
      | zero => omega
      | succ fuel =>
        refine ⟨fun hr => absurd (fun j hj => none_ready hpl hsz hr j (by omega)) hall, fun i hi => ?_⟩
        obtain ⟨h1, h2, _⟩ := ready_spec hi
        have him : i < m := by
          rcases Nat.lt_or_ge i m with h | h
          · exact h
          · exfalso
            apply hall
            intro j hj
            simp only [tailOk, List.all_eq_true, List.mem_range, Bool.or_eq_true] at ht
            have hre : reach c (opsOf c).size i j = true := by
              rcases ht i h1 with h3 | h3
              · have : i < m := by simpa [Nat.blt_eq] using h3
                omega
              · exact h3 j (by omega)
            exact donebefore (ls := fun q => listed.getD q false) (fun j hj q hq => hk.2.2.2.1 j hj q hq) (fun q hq => ready_preds hi q hq) hre
        have hni := ready_not hsz hi
        have hil : i < listed.size := by omega
        refine draw_step hd hdn (hops i him) hsz hi hk (fun a' w' hk' => ?_)
        have hlt : ((List.range (opsOf c).size).filter (fun j => !(listed.setIfInBounds i true).getD j false)).length < n := by
          rw [← hn]
          have hsub : ((List.range (opsOf c).size).filter (fun j => !(listed.setIfInBounds i true).getD j false)) = ((List.range (opsOf c).size).filter (fun j => !listed.getD j false)).filter (fun j => !(Nat.beq j i)) := by
            rw [List.filter_filter]
            apply List.filter_congr
            intro j _
            rw [lst_set hil]
            by_cases e : j = i
            · subst e; simp
            · have hb : Nat.beq j i = false := by
                cases hq : Nat.beq j i with
                | false => rfl
                | true => exact absurd (Nat.eq_of_beq_eq_true hq) e
              simp [e, hb]
          rw [hsub]
          have hmem : i ∈ (List.range (opsOf c).size).filter (fun j => !listed.getD j false) := List.mem_filter.2 ⟨List.mem_range.2 h1, by rw [hni]; rfl⟩
          exact List.length_filter_lt_length_iff_exists.2 ⟨i, hmem, by simp⟩
        refine ih _ hlt fuel _ a' w' (by simpa using hsz) rfl (by omega) (fun j hj => ?_) hk'
        rw [lst_set hil, hup j hj]
        have : j ≠ i := by omega
        simp [this]
theorem zdt (m : Nat) (sp : Nat → Spec) {a : Act} (hF : Fr a N env0) (hops : ∀ i, i < m → OpOK P c Q N env0 wr sp i)
    (h : ∀ a' w' (vs : Nat → Value), Kp wr w' → (∀ j, j < m → (sp j).ok (vs j) w') → Fr a' N (valsE c sp vs (List.range m) ++ restL c m env0) → From P c K Q m a' w')
    (ht : tailOk c m = true := by kernel_rfl) (hm' : Nat.ble m (opsOf c).size = true := by kernel_rfl)
    (hk : kind c = .region true := by kernel_rfl) (hm : P.follows .mixedOrders = true := by kernel_rfl) (hd : dstsOk c = true := by kernel_rfl) (hpl : predsLt c = true := by kernel_rfl) (hkeys : keysOk env0 = true := by kernel_rfl)
    (hdn : (List.range (opsOf c).size).all (fun i => okd (dstAt c i) N) = true := by kernel_rfl) : W P c K Q a wr := by
  have hdn' : ∀ i d, dstAt c i = some d → d < N.n := by
    intro i d hi
    have hlt : i < (opsOf c).size := by
      simp only [dstAt] at hi
      cases ho : (opsOf c)[i]? with
      | none => simp [ho] at hi
      | some o => exact (Array.getElem?_eq_some_iff.1 ho).1
    simp only [List.all_eq_true, List.mem_range] at hdn
    have := hdn i hlt
    rw [hi] at this
    simpa [okd, Nat.blt_eq] using this
  have hm2 := Nat.le_of_ble_eq_true hm'
  cases c <;> simp [kind] at hk
  rename_i id ops dr
  subst hk
  refine wp_region_any hm ?_
  have hrep : ∀ j, (Array.replicate ops.size false).getD j false = false := by
    intro j
    simp only [Array.getD_eq_getD_getElem?, Array.getElem?_replicate]
    split <;> rfl
  have h0 : Known (.region id ops true) N env0 wr sp (Array.replicate ops.size false) a { wr with drawn := wr.drawn + 1 } := by
    refine ⟨Mem.drew wr, hF.defers, hF.size, ?_, ⟨fun _ => undef, ?_⟩, fun t v htv _ => hF.slot t v (keys_look hkeys htv)⟩
    · intro j hj; rw [hrep j] at hj; cases hj
    · intro j hj; rw [hrep j] at hj; cases hj
  refine draw_tail (c := .region id ops true) hd hdn' hpl ht hm2 hops ?_ _ ops.size _ a _ (by simp [opsOf]) rfl ?_ (fun j _ => hrep j) h0
  · intro a' w' listed hall hup hk
    obtain ⟨hkp, hdef, hsz, _, ⟨vs, hvs⟩, hbase⟩ := hk
    refine h a' w' vs hkp (fun j hj => (hvs j (hall j hj)).1) ⟨hdef, hsz, fun t v hv => ?_⟩
    rcases look_append hv with h1 | h1
    · obtain ⟨j, hj, hdj, rfl⟩ := look_vals h1
      obtain ⟨h2, h3⟩ := hvs j (hall j (List.mem_range.1 hj))
      rw [Spec.val_ok h2]
      exact h3 t hdj
    · obtain ⟨h2, h3⟩ := look_restL h1
      refine hbase t v h2 (fun j hj => ?_)
      rcases Nat.lt_or_ge j m with hjm | hjm
      · exact h3 j hjm
      · rw [hup j hjm] at hj; cases hj
  · refine Nat.le_trans (List.length_filter_le _ _) ?_
    simp [opsOf]
def Spec.never : Spec := .any (fun _ _ => False) (fun _ _ _ _ h => h)
variable {i : Nat}
theorem dF {f : FuncId} {vs : List Value} {Ψ : Value → World → Prop} (hc : ∀ w, Kp wr w → Calls P f vs.toArray w (REnds (fun _ _ => False) Ψ)) (hq : ∀ v w', Ψ v w' → ∀ a, a.defers = N.D → Q (pan v) a w')
    (hg : ∀ vs, gtE c i (predE c i sp vs env0) = some true := by intro _; kernel_rfl)
    (hk : ∀ us, clE2 P (one c i) N (predE c i sp us env0) 0 = some (dstAt c i, f, vs) := by intro _; kernel_rfl) : OpOK P c Q N env0 wr sp i := by
  refine op_of hg (fun w us hK hp a hF => ?_)
  exact From_clE _ f vs hF (hk us) (hc w hK) (fun v w' hv' a' ea _ => hv'.elim) (fun v w' hv' => hq v w' hv' a hF.defers)
theorem dN (j : Nat) (hs : sp j = Spec.never := by rfl) (hj : memN (predsOf c i) j = true := by kernel_rfl) (hg : ∀ vs, gtE c i (predE c i sp vs env0) = some true := by intro _; kernel_rfl) : OpOK P c Q N env0 wr sp i := by
  refine op_of hg (fun w us hK hp a hF => ?_)
  have := hp j (memN_iff.1 hj)
  rw [hs] at this
  exact this.elim
end
theorem xpd {P : Program} {fn : Func} {Φ Ψ : Value → World → Prop} {v : Value} {a : Act} {w : World} {N : FN} (hd : a.defers = N.D) (h : Ψ v w) (hD : N.D = [] := by rfl) : bodyPost P fn (REnds Φ Ψ) (pan v) a w := ⟨hd.trans hD, v, rfl, h⟩
def paE (c : Code) (env : Env) (k : Nat) : Option Value := match coreAt c k with
  | some (_, .panic x, _, g) => match guardE c g env, ev env x with
    | some true, some v => some v
    | _, _ => none
  | _ => none
theorem zpa {P : Program} {c : Code} {K : Act → World → Prop} {Q : Exit → Act → World → Prop} {w : World} {k : Nat} {N : FN} {env : Env} (t : TypeId) (v : Value) (h : ∀ a, Fr a N env → Q (pan (.iface t v)) a w) (hk : paE c env k = some (.iface t v) := by kernel_rfl) : ∀ a, Fr a N env → From P c K Q k a w := fun a hF => by
  unfold paE at hk
  split at hk
  · rename_i h0
    split at hk
    · rename_i h1 h2
      injection hk with hk
      exact From_panic h0 hF h1 (h2.trans (congrArg some hk)) (h a hF)
    · cases hk
  · cases hk
end Go.Mor
namespace Go.Mor
open Go.RowKit
section
variable {P : Program}
theorem oper_mono {o : Oper} {a : Act} {w : World} {K K' : Act → World → Prop} {Q Q' : Exit → Act → World → Prop} (h : ∀ a w, K a w → K' a w) (hq : ∀ e a w, Q e a w → Q' e a w) (hh : o.wp P a w K Q) : o.wp P a w K' Q' := by
  unfold Oper.wp at *
  generalize (execOp a.eval o).run P w = r at *
  cases r with
  | ok n w' =>
    cases n <;> simp only [Oper.upon] at hh ⊢ <;>
      first
        | exact h _ _ hh
        | exact Calls.mono hh (fun e w'' he => by cases e <;> first | exact h _ _ he | exact hq _ _ _ he | exact (fun ⟨a0, w0, h0⟩ => ⟨a0, w0, hq _ _ _ h0⟩) he)
        | exact Rows.mono hh (fun _ _ he => h _ _ he)
  | halt x w' => cases x <;> simp only [Oper.upon] at hh ⊢ <;> first | exact hq _ _ _ hh | exact hh
theorem then_mono {K K' : Act → World → Prop} {Q : Exit → Act → World → Prop} (h : ∀ a w, K a w → K' a w) : ∀ e a w, Exit.then K Q e a w → Exit.then K' Q e a w := by
  intro e a w he
  cases e <;> first | exact h _ _ he | exact he
theorem list_mono {ops : Array Oper} {Q Q' : Exit → Act → World → Prop} (hq : ∀ e a w, Q e a w → Q' e a w) (hl : LetsOut Q → LetsOut Q') : ∀ (l : List Oper) (a : Act) (w : World), wpList P ops Q l a w → wpList P ops Q' l a w
  | [], a, w, h => hq _ _ _ h
  | o :: rest, a, w, h => by
    unfold wpList at h ⊢
    split
    · rename_i hw
      rw [if_pos hw] at h
      exact h.imp (oper_mono (list_mono hq hl rest) hq) (fun h => ⟨h.1, hl h.2⟩)
    · rename_i hw
      rw [if_neg hw] at h
      exact list_mono hq hl rest _ _ h
variable {c : Code} {K K' : Act → World → Prop} {Q : Exit → Act → World → Prop} {k : Nat} {a : Act} {w : World}
theorem lets_then : LetsOut (Exit.then K Q) → LetsOut (Exit.then K' Q) := fun ⟨a0, w0, h0⟩ => ⟨a0, w0, h0⟩
theorem From.imp (h : ∀ a w, K a w → K' a w) (hf : From P c K Q k a w) : From P c K' Q k a w := list_mono (then_mono h) lets_then _ _ _ hf
end
section
variable {P : Program} {c : Code} {K : Act → World → Prop} {Q : Exit → Act → World → Prop} {N : FN} {env0 : Env} {wr : World} {sp : Nat → Spec} {J : (Nat → Bool) → (Nat → Value) → World → Prop}
theorem drawJ_tail (hd : dstsOk c = true) (hdn : ∀ i d, dstAt c i = some d → d < N.n) (hdet : ∀ j v w w', (sp j).ok v w → (sp j).ok v w') (hpl : predsLt c = true) {m : Nat} (ht : tailOk c m = true) (hm : m ≤ (opsOf c).size) (hops : ∀ i, i < m → OpOKJ P c Q N env0 sp J i)
    (hend : ∀ a w, (∀ listed : Array Bool, listed.size = (opsOf c).size → (∀ j, j < m → listed.getD j false = true) → (∀ j, m ≤ j → listed.getD j false = false) → KnownJ c N env0 sp J listed a w → From P c K Q m a w)) :
    ∀ (n fuel : Nat) (listed : Array Bool) (a : Act) (w : World), listed.size = (opsOf c).size → ((List.range (opsOf c).size).filter (fun j => !listed.getD j false)).length = n → n ≤ fuel → (∀ j, m ≤ j → listed.getD j false = false) → KnownJ c N env0 sp J listed a w →
      wpAny P .any (opsOf c) (Exit.then K Q) fuel listed a w := by
  intro n
  induction n using Nat.strongRecOn with
  | _ n ih =>
    intro fuel listed a w hsz hn hf hup hk
    by_cases hall : ∀ j, j < m → listed.getD j false = true
    · have hlen : (opsOf c).size ≤ m + n := by
        have h1 : ((List.range (opsOf c).size).filter (fun j => !listed.getD j false)).length = (opsOf c).size - m := by
          have e : (List.range (opsOf c).size).filter (fun j => !listed.getD j false) = (List.range (opsOf c).size).filter (fun j => decide (m ≤ j)) := by
            apply List.filter_congr
            intro j _
            by_cases hj : j < m
            · rw [hall j hj]; simp; omega
            · rw [hup j (by omega)]; simp; omega
          rw [e]
          have key : ∀ N, ((List.range N).filter (fun j => decide (m ≤ j))).length = N - m := by
            intro N
            induction N with
            | zero => simp
            | succ N ihN =>
              rw [List.range_succ, List.filter_append, List.length_append, ihN]
              by_cases h : m ≤ N
              · simp [h]; omega
              · simp [h]; omega
          exact key _
        omega
      refine any_tail hpl ht n fuel m listed a w hsz hlen hf (Nat.le_refl _) hm (fun j hj => ?_) (hend a w listed hsz hall hup hk)
      by_cases h : j < m
      · rw [hall j h]; simp [h]
      · rw [hup j (by omega)]; simp [h]
    · have hpos : 0 < n := by
        rcases Nat.eq_zero_or_pos n with h0 | h0
        · exfalso
          apply hall
          intro j hj
          cases hq : listed.getD j false with
          | true => rfl
          | false =>
            have : j ∈ (List.range (opsOf c).size).filter (fun j => !listed.getD j false) := List.mem_filter.2 ⟨List.mem_range.2 (by omega), by rw [hq]; rfl⟩
            have := List.length_pos_of_mem this
            omega
        · exact h0
      cases fuel with
      | zero => omega
      | succ fuel =>
        refine ⟨fun hr => absurd (fun j hj => none_ready hpl hsz hr j (by omega)) hall, fun i hi => ?_⟩
        obtain ⟨h1, h2, _⟩ := ready_spec hi
        have hcl : Closed c (fun q => listed.getD q false) := by
          obtain ⟨ls, vs, hls, hout, _, _, _, hcl, _⟩ := hk
          have e : ls = fun q => listed.getD q false := by
            funext q
            rcases Nat.lt_or_ge q listed.size with h | h
            · exact hls q h
            · rw [hout q h]
              simp [Array.getD, Nat.not_lt.2 h]
          rw [← e]
          exact hcl
        have him : i < m := by
          rcases Nat.lt_or_ge i m with h | h
          · exact h
          · exfalso
            apply hall
            intro j hj
            simp only [tailOk, List.all_eq_true, List.mem_range, Bool.or_eq_true] at ht
            have hre : reach c (opsOf c).size i j = true := by
              rcases ht i h1 with h3 | h3
              · have : i < m := by simpa [Nat.blt_eq] using h3
                omega
              · exact h3 j (by omega)
            exact donebefore hcl (fun q hq => ready_preds hi q hq) hre
        have hni := ready_not hsz hi
        have hil : i < listed.size := by omega
        refine drawJ_step hd hdn hdet (hops i him) hsz hi hk (fun a' w' hk' => ?_)
        have hlt : ((List.range (opsOf c).size).filter (fun j => !(listed.setIfInBounds i true).getD j false)).length < n := by
          rw [← hn]
          have hsub : ((List.range (opsOf c).size).filter (fun j => !(listed.setIfInBounds i true).getD j false)) = ((List.range (opsOf c).size).filter (fun j => !listed.getD j false)).filter (fun j => !(Nat.beq j i)) := by
            rw [List.filter_filter]
            apply List.filter_congr
            intro j _
            rw [lst_set hil]
            by_cases e : j = i
            · subst e; simp
            · have hb : Nat.beq j i = false := by
                cases hq : Nat.beq j i with
                | false => rfl
                | true => exact absurd (Nat.eq_of_beq_eq_true hq) e
              simp [e, hb]
          rw [hsub]
          have hmem : i ∈ (List.range (opsOf c).size).filter (fun j => !listed.getD j false) := List.mem_filter.2 ⟨List.mem_range.2 h1, by rw [hni]; rfl⟩
          exact List.length_filter_lt_length_iff_exists.2 ⟨i, hmem, by simp⟩
        refine ih _ hlt fuel _ a' w' (by simpa using hsz) rfl (by omega) (fun j hj => ?_) hk'
        rw [lst_set hil, hup j hj]
        have : j ≠ i := by omega
        simp [this]
theorem zdtJ (m : Nat) (sp : Nat → Spec) (J : (Nat → Bool) → (Nat → Value) → World → Prop) {a : Act} (hF : Fr a N env0) (hdet : ∀ j v w w', (sp j).ok v w → (sp j).ok v w') (h0 : J (fun _ => false) (fun _ => undef) wr.drew) (hops : ∀ i, i < m → OpOKJ P c Q N env0 sp J i)
    (h : ∀ a' w' (ls : Nat → Bool) (vs : Nat → Value), (∀ j, j < m → ls j = true) → J ls vs w' → (∀ j, j < m → (sp j).ok (vs j) w') → Fr a' N (valsE c sp vs (List.range m) ++ restL c m env0) → From P c K Q m a' w')
    (ht : tailOk c m = true := by kernel_rfl) (hm' : Nat.ble m (opsOf c).size = true := by kernel_rfl)
    (hk : kind c = .region true := by kernel_rfl) (hm : P.follows .mixedOrders = true := by kernel_rfl) (hd : dstsOk c = true := by kernel_rfl) (hpl : predsLt c = true := by kernel_rfl) (hkeys : keysOk env0 = true := by kernel_rfl)
    (hdn : (List.range (opsOf c).size).all (fun i => okd (dstAt c i) N) = true := by kernel_rfl) : W P c K Q a wr := by
  have hdn' : ∀ i d, dstAt c i = some d → d < N.n := by
    intro i d hi
    have hlt : i < (opsOf c).size := by
      simp only [dstAt] at hi
      cases ho : (opsOf c)[i]? with
      | none => simp [ho] at hi
      | some o => exact (Array.getElem?_eq_some_iff.1 ho).1
    simp only [List.all_eq_true, List.mem_range] at hdn
    have := hdn i hlt
    rw [hi] at this
    simpa [okd, Nat.blt_eq] using this
  have hm2 := Nat.le_of_ble_eq_true hm'
  cases c <;> simp [kind] at hk
  rename_i id ops dr
  subst hk
  refine wp_region_any hm ?_
  have hrep : ∀ j, (Array.replicate ops.size false).getD j false = false := by
    intro j
    simp only [Array.getD_eq_getD_getElem?, Array.getElem?_replicate]
    split <;> rfl
  have h1 : KnownJ (.region id ops true) N env0 sp J (Array.replicate ops.size false) a { wr with drawn := wr.drawn + 1 } :=
    ⟨fun _ => false, fun _ => undef, fun j _ => (hrep j).symm, fun _ _ => rfl, h0, hF.defers, hF.size, (fun _ hj => absurd hj (by simp)), (fun _ hj => absurd hj (by simp)), fun t v htv _ => hF.slot t v (keys_look hkeys htv)⟩
  refine drawJ_tail (c := .region id ops true) hd hdn' hdet hpl ht hm2 hops ?_ _ ops.size _ a _ (by simp [opsOf]) rfl ?_ (fun j _ => hrep j) h1
  · intro a' w' listed hsz0 hall hup hk
    obtain ⟨ls, vs, hls, hout, hJ, hdef, hsz', _, hvs, hbase⟩ := hk
    have hlt : ∀ j, j < m → ls j = true := fun j hj => by
      rw [hls j (by omega)]; exact hall j hj
    refine h a' w' ls vs hlt hJ (fun j hj => (hvs j (hlt j hj)).1) ⟨hdef, hsz', fun t v hv => ?_⟩
    rcases look_append hv with h1 | h1
    · obtain ⟨j, hj, hdj, rfl⟩ := look_vals h1
      obtain ⟨h2, h3⟩ := hvs j (hlt j (List.mem_range.1 hj))
      rw [Spec.val_ok h2]
      exact h3 t hdj
    · obtain ⟨h2, h3⟩ := look_restL h1
      refine hbase t v h2 (fun j hj => ?_)
      rcases Nat.lt_or_ge j m with hjm | hjm
      · exact h3 j hjm
      · rcases Nat.lt_or_ge j listed.size with hq | hq
        · rw [hls j hq, hup j hjm] at hj; cases hj
        · rw [hout j hq] at hj; cases hj
  · refine Nat.le_trans (List.length_filter_le _ _) ?_
    simp [opsOf]
theorem zdm (m k0 : Nat) (sp : Nat → Spec) (A B R : World → Prop) {a : Act} (hF : Fr a N env0) (hdet : ∀ j v w w', (sp j).ok v w → (sp j).ok v w') (hA : A wr.drew) (hAK : ∀ w w', A w → Kp w w' → A w') (hBK : ∀ w w', B w → Kp w w' → B w') (hAR : ∀ w, A w → R w) (hBR : ∀ w, B w → R w)
    (hops : ∀ i, i < m → i ≠ k0 → ∀ w, R w → OpOK P c Q N env0 w sp i)
    (hg : ∀ vs, gtE c k0 (predE c k0 sp vs env0) = some true)
    (hop : ∀ w, A w → ∀ (vs : Nat → Value) a, Fr a N (predE c k0 sp vs env0) → From P (one c k0) (fun a' w' => ∃ v, a' = a.put (dstAt c k0) v ∧ (sp k0).ok v w' ∧ B w') Q 0 a w)
    (h : ∀ a' w' (vs : Nat → Value), B w' → (∀ j, j < m → (sp j).ok (vs j) w') → Fr a' N (valsE c sp vs (List.range m) ++ restL c m env0) → From P c K Q m a' w')
    (hkm : Nat.blt k0 m = true := by kernel_rfl) (ht : tailOk c m = true := by kernel_rfl) (hm' : Nat.ble m (opsOf c).size = true := by kernel_rfl)
    (hk : kind c = .region true := by kernel_rfl) (hm : P.follows .mixedOrders = true := by kernel_rfl) (hd : dstsOk c = true := by kernel_rfl) (hpl : predsLt c = true := by kernel_rfl) (hkeys : keysOk env0 = true := by kernel_rfl)
    (hdn : (List.range (opsOf c).size).all (fun i => okd (dstAt c i) N) = true := by kernel_rfl) : W P c K Q a wr := by
  refine zdtJ (wr := wr) m sp (fun ls _ w => match ls k0 with | true => B w | false => A w) hF hdet hA (fun i hi => ?_) (fun a' w' ls vs hl hJ hv hF' => ?_) ht hm' hk hm hd hpl hkeys hdn
  · by_cases e : i = k0
    · subst e
      refine opJ_of hg (fun w ls vs hJ hli _ _ a hF => ?_)
      rw [hli] at hJ
      refine (hop w hJ vs a hF).imp (fun a' w' ⟨v, h1, h2, h3⟩ => ⟨v, h1, h2, ?_⟩)
      have : setB ls i i = true := by unfold setB; rw [Nat.beq_refl]
      rw [this]
      exact h3
    · intro a w ls vs rest hJ hli hcl hp hF
      have hset : ∀ v : Value, setB ls i k0 = ls k0 := fun v => by
        unfold setB
        have : Nat.beq k0 i = false := by
          cases hq : Nat.beq k0 i with
          | false => rfl
          | true => exact absurd (Nat.eq_of_beq_eq_true hq).symm e
        rw [this]
      have hR : R w := by
        cases hq : ls k0 with
        | true => rw [hq] at hJ; exact hBR w hJ
        | false => rw [hq] at hJ; exact hAR w hJ
      have hJK : ∀ w', Kp w w' → (match ls k0 with | true => B w' | false => A w') := fun w' hK => by
        cases hq : ls k0 with
        | true => rw [hq] at hJ; exact hBK w w' hJ hK
        | false => rw [hq] at hJ; exact hAK w w' hJ hK
      obtain ⟨b, h1, h2, h3⟩ := hops i hi e w hR a w vs rest (Kp.refl w) (fun j hj => (hp j hj).2) hF
      refine ⟨b, h1, fun hb => (h2 hb).imp (fun a' w' hx => ?_), fun hb => ⟨h3 hb, ?_⟩⟩
      · obtain ⟨v, g1, g2, g3⟩ := hx
        refine ⟨v, g1, g3, ?_⟩
        show (match setB ls i k0 with | true => B w' | false => A w')
        rw [hset v]
        exact hJK w' g2
      · show (match setB ls i k0 with | true => B w | false => A w)
        rw [hset undef]
        exact hJ
  · rw [hl k0 (by simpa [Nat.blt_eq] using hkm)] at hJ
    exact h a' w' vs hJ hv hF'
theorem dMu {i : Nat} {A B : World → Prop} {f : FuncId} {vs : List Value} {u : Value} {Ψ : World → Value → World → Prop} (hc : ∀ w, A w → Calls P f vs.toArray w (REnds (fun v w' => v = u ∧ B w') (Ψ w))) (hq : ∀ w v w', A w → Ψ w v w' → ∀ a, a.defers = N.D → Q (pan v) a w') (hv : sp i = .det u := by rfl)
    (hk : ∀ us, clE2 P (one c i) N (predE c i sp us env0) 0 = some (dstAt c i, f, vs) := by intro _; kernel_rfl) (he : coreAt (one c i) 1 = none := by kernel_rfl) :
    ∀ w, A w → ∀ (us : Nat → Value) a, Fr a N (predE c i sp us env0) → From P (one c i) (fun a' w' => ∃ v, a' = a.put (dstAt c i) v ∧ (sp i).ok v w' ∧ B w') Q 0 a w := by
  intro w hA us a hF
  refine From_clE _ f vs hF (hk us) (hc w hA) (fun v w' hv' a' ea _ => From_end he ⟨v, ea, ?_, hv'.2⟩) (fun v w' hv' => hq w v w' hA hv' a hF.defers)
  rw [hv, hv'.1]
  rfl
end
end Go.Mor
namespace Go.Mor
open Go.RowKit
def MEx.cells (e : MEx) : List Value := [.int .i64 e.op, .int .i64 e.n, .string e.nm, .slice e.A e.kids.length e.c]
def MSt.cells (x : MSt) : List Value := [.int .i64 x.op, .int .i64 x.n, .slice x.eA x.exprs.length x.ec, .slice x.bA x.body.length x.bc, .slice x.lA x.els.length x.lc]
def TFn.cells (f : TFn) : List Value := [.string f.nm, .bool f.wk, .int .i64 f.pa, .int .i64 f.lo, .slice f.A f.body.length f.c]
mutual
def exRes : MEx → List Res
  | ⟨_, _, _, A, _, kids⟩ => .rds A 4 (kids.map MEx.cells) :: exsRes kids
def exsRes : List MEx → List Res
  | [] => []
  | e :: r => exRes e ++ exsRes r
end
mutual
def stRes : MSt → List Res
  | ⟨_, _, eA, _, exprs, bA, _, body, lA, _, els⟩ => .rds eA 4 (exprs.map MEx.cells) :: .rds bA 5 (body.map MSt.cells) :: .rds lA 5 (els.map MSt.cells) :: (exsRes exprs ++ (stsRes body ++ stsRes els))
def stsRes : List MSt → List Res
  | [] => []
  | x :: r => stRes x ++ stsRes r
end
def TFn.parts (f : TFn) : List Res := .rds f.A 5 (f.body.map MSt.cells) :: stsRes f.body
theorem exRes_eq (e : MEx) : exRes e = .rds e.A 4 (e.kids.map MEx.cells) :: exsRes e.kids := by cases e; rfl
theorem stRes_eq (x : MSt) : stRes x = .rds x.eA 4 (x.exprs.map MEx.cells) :: .rds x.bA 5 (x.body.map MSt.cells) :: .rds x.lA 5 (x.els.map MSt.cells) :: (exsRes x.exprs ++ (stsRes x.body ++ stsRes x.els)) := by cases x; rfl
theorem exs_sub {l : List MEx} {e : MEx} (h : e ∈ l) : ∀ r, r ∈ exRes e → r ∈ exsRes l := by
  induction l with
  | nil => cases h
  | cons x l ih =>
    intro r hr
    show r ∈ exRes x ++ exsRes l
    rcases List.mem_cons.1 h with rfl | h
    · exact List.mem_append_left _ hr
    · exact List.mem_append_right _ (ih h r hr)
theorem sts_sub {l : List MSt} {x : MSt} (h : x ∈ l) : ∀ r, r ∈ stRes x → r ∈ stsRes l := by
  induction l with
  | nil => cases h
  | cons y l ih =>
    intro r hr
    show r ∈ stRes y ++ stsRes l
    rcases List.mem_cons.1 h with rfl | h
    · exact List.mem_append_left _ hr
    · exact List.mem_append_right _ (ih h r hr)
def SubE (T : List Res) (e : MEx) : Prop := ∀ r, r ∈ exRes e → r ∈ T
def SubEs (T : List Res) (A : Option Addr) (l : List MEx) : Prop := .rds A 4 (l.map MEx.cells) ∈ T ∧ ∀ e, e ∈ l → SubE T e
def SubX (T : List Res) (x : MSt) : Prop := ∀ r, r ∈ stRes x → r ∈ T
def SubXs (T : List Res) (A : Option Addr) (l : List MSt) : Prop := .rds A 5 (l.map MSt.cells) ∈ T ∧ ∀ x, x ∈ l → SubX T x
section
variable {T : List Res} {e : MEx} {x : MSt} {f : TFn}
theorem SubE.kids (h : SubE T e) : SubEs T e.A e.kids := by
  unfold SubE at h
  rw [exRes_eq] at h
  exact ⟨h _ List.mem_cons_self, fun k hk r hr => h r (List.mem_cons_of_mem _ (exs_sub hk r hr))⟩
theorem SubX.exprs (h : SubX T x) : SubEs T x.eA x.exprs := by
  unfold SubX at h
  rw [stRes_eq] at h
  exact ⟨h _ List.mem_cons_self, fun k hk r hr => h r (.tail _ (.tail _ (.tail _ (List.mem_append_left _ (exs_sub hk r hr)))))⟩
theorem SubX.body (h : SubX T x) : SubXs T x.bA x.body := by
  unfold SubX at h
  rw [stRes_eq] at h
  exact ⟨h _ (.tail _ (List.mem_cons_self ..)), fun k hk r hr => h r (.tail _ (.tail _ (.tail _ (List.mem_append_right _ (List.mem_append_left _ (sts_sub hk r hr))))))⟩
theorem SubX.els (h : SubX T x) : SubXs T x.lA x.els := by
  unfold SubX at h
  rw [stRes_eq] at h
  exact ⟨h _ (.tail _ (.tail _ (List.mem_cons_self ..))), fun k hk r hr => h r (.tail _ (.tail _ (.tail _ (List.mem_append_right _ (List.mem_append_right _ (sts_sub hk r hr))))))⟩
theorem sub_fn {l : List TFn} (h : f ∈ l) : SubXs (l.flatMap TFn.parts) f.A f.body :=
  ⟨List.mem_flatMap.2 ⟨f, h, List.mem_cons_self⟩, fun x hx r hr => List.mem_flatMap.2 ⟨f, h, List.mem_cons_of_mem _ (sts_sub hx r hr)⟩⟩
end
structure ShW (lo : Int) (e : MEx) : Prop where
  n : In64 e.n
  kids : e.kids.length ≤ 17
  op : 1 ≤ e.op ∧ e.op ≤ 13
  loc : e.op = 2 → 0 ≤ e.n ∧ e.n < lo
  two : e.op = 3 ∨ e.op = 13 → e.kids.length = 2
  one : e.op = 4 ∨ e.op = 5 ∨ e.op = 10 → e.kids.length = 1
  at_ : e.op = 7 → 1 ≤ e.kids.length
  three : e.op = 12 → e.kids.length = 3
  few : e.op = 6 → e.kids.length ≤ 16
inductive ExW (lo : Int) : MEx → Prop
  | mk {e : MEx} (h : ShW lo e) (hk : ∀ k, k ∈ e.kids → ExW lo k) : ExW lo e
theorem ExW.sh {lo : Int} {e : MEx} (h : ExW lo e) : ShW lo e := by cases h with | mk h _ => exact h
theorem ExW.kid {lo : Int} {e : MEx} (h : ExW lo e) : ∀ k, k ∈ e.kids → ExW lo k := by cases h with | mk _ h => exact h
structure SfW (lo : Int) (x : MSt) : Prop where
  n : In64 x.n
  op : 1 ≤ x.op ∧ x.op ≤ 10
  loc : x.op = 1 → 0 ≤ x.n ∧ x.n < lo
  one : x.op = 1 ∨ x.op = 3 ∨ x.op = 4 ∨ x.op = 5 → x.exprs.length = 1
  two : x.op = 2 → x.exprs.length = 2
  few : x.exprs.length ≤ 2
  body : LenOk x.body.length
  els : LenOk x.els.length
inductive StW (lo : Int) : MSt → Prop
  | mk {x : MSt} (h : SfW lo x) (he : ∀ k, k ∈ x.exprs → ExW lo k) (hb : ∀ k, k ∈ x.body → StW lo k) (hl : ∀ k, k ∈ x.els → StW lo k) : StW lo x
theorem StW.sf {lo : Int} {x : MSt} (h : StW lo x) : SfW lo x := by cases h with | mk h _ _ _ => exact h
theorem StW.ex {lo : Int} {x : MSt} (h : StW lo x) : ∀ k, k ∈ x.exprs → ExW lo k := by cases h with | mk _ h _ _ => exact h
theorem StW.bd {lo : Int} {x : MSt} (h : StW lo x) : ∀ k, k ∈ x.body → StW lo k := by cases h with | mk _ _ h _ => exact h
theorem StW.el {lo : Int} {x : MSt} (h : StW lo x) : ∀ k, k ∈ x.els → StW lo k := by cases h with | mk _ _ _ h => exact h
structure TFn.WF (f : TFn) : Prop where
  pa0 : 0 ≤ f.pa
  pal : f.pa ≤ f.lo
  lo : f.lo ≤ 2000
  len : LenOk f.body.length
  body : ∀ x, x ∈ f.body → StW f.lo x
abbrev EC (e : MEx) : List Value := [.int .i64 e.op, .int .i64 e.n, .string e.nm, .slice e.A e.kids.length e.c]
abbrev SC (x : MSt) : List Value := [.int .i64 x.op, .int .i64 x.n, .slice x.eA x.exprs.length x.ec, .slice x.bA x.body.length x.bc, .slice x.lA x.els.length x.lc]
abbrev FC (f : TFn) : List Value := [.string f.nm, .bool f.wk, .int .i64 f.pa, .int .i64 f.lo, .slice f.A f.body.length f.c]
structure TC where
  E : EnvT
  r : Nat
  fA : Option Addr
  fc : Nat
  mB : Nat
  dB : Nat
  mG : Nat
  iA : Option Addr
  ic : Nat
abbrev endT (k c : Int) : Value := .iface 99 (.agg #[.int .i64 k, .int .i64 c])
abbrev tcells (C : TC) (s : PSt) (oA : Option Addr) (oc : Nat) : List Value :=
  [.slice C.fA (C.E.tfs.length + 1) C.fc, .map (some C.mB), .map (some C.dB), .slice (some ⟨C.mG, 0, none⟩) C.E.memN C.E.memN, .int .i64 s.next,
    .slice (inAt C.iA C.ic s.pos).1 (C.E.inp.length - s.pos) (inAt C.iA C.ic s.pos).2, .slice oA s.out.length oc, .int .i64 C.E.fuel, .int .i64 s.steps, .int .i64 s.opened]
abbrev tunL (C : TC) (s : PSt) (oA : Option Addr) (oc : Nat) : List Res :=
  [.blk C.r 66 (tcells C s oA oc), .row 2 1 (some ⟨C.mG, 0, none⟩) C.E.memN C.E.memN (ints s.mem), .row 5 1 oA s.out.length oc (u8s s.out)]
abbrev tb_ (C : TC) (s : PSt) (oA : Option Addr) (oc : Nat) : Res := .blk C.r 66 (tcells C s oA oc)
abbrev tm_ (C : TC) (s : PSt) : Res := .row 2 1 (some ⟨C.mG, 0, none⟩) C.E.memN C.E.memN (ints s.mem)
abbrev to_ (s : PSt) (oA : Option Addr) (oc : Nat) : Res := .row 5 1 oA s.out.length oc (u8s s.out)
abbrev tl_ (C : TC) (fA : Option Addr) (n c : Nat) (v : Value) : Res := .blk C.r 66 [.slice fA n c, .map (some C.mB), .map (some C.dB), .slice (some ⟨C.mG, 0, none⟩) C.E.memN C.E.memN, v, .slice (inAt C.iA C.ic 0).1 (C.E.inp.length - 0) (inAt C.iA C.ic 0).2, .slice none 0 0, .int .i64 C.E.fuel, .int .i64 0, .int .i64 0]
abbrev zeroTF : List Value := [.string ⟨#[]⟩, .bool false, .int .i64 0, .int .i64 0, .slice none 0 0]
def TC.T (C : TC) : List Res := C.E.tfs.flatMap TFn.parts
def TC.ro (C : TC) : Res := .all (.rds C.fA 5 (zeroTF :: C.E.tfs.map TFn.cells) :: .map C.mB (inK .string (vK C.E.names)) :: .map C.dB (inK .string (vK C.E.data)) :: .rd C.iA (u8s C.E.inp) :: C.T)
section
variable {S : Nat → Prop} {w : World} {C : TC}
theorem RO.tfns (h : RO S w C.ro) : RO S w (.rds C.fA 5 (zeroTF :: C.E.tfs.map TFn.cells)) := h.sub (List.mem_cons_self ..)
theorem RO.tnames (h : RO S w C.ro) : RO S w (.map C.mB (inK .string (vK C.E.names))) := h.sub (.tail _ (List.mem_cons_self ..))
theorem RO.tdata (h : RO S w C.ro) : RO S w (.map C.dB (inK .string (vK C.E.data))) := h.sub (.tail _ (.tail _ (List.mem_cons_self ..)))
theorem RO.tin (h : RO S w C.ro) : RO S w (.rd C.iA (u8s C.E.inp)) := h.sub (.tail _ (.tail _ (.tail _ (List.mem_cons_self ..))))
theorem RO.tree (h : RO S w C.ro) {r : Res} (hr : r ∈ C.T) : RO S w r := h.sub (.tail _ (.tail _ (.tail _ (.tail _ hr))))
end
structure TC.WF (C : TC) : Prop where
  fns : ∀ f, f ∈ C.E.tfs → f.WF
  nfns : C.E.tfs.length ≤ 1000000
  mem : C.E.memN ≤ 262144
  fuel : 0 ≤ C.E.fuel ∧ C.E.fuel ≤ 4194304
  inp : C.E.inp.length ≤ 4096
  ic : C.E.inp.length ≤ C.ic
  bytes : ∀ b, b ∈ C.E.inp → 0 ≤ b ∧ b ≤ 255
structure TGood (C : TC) (s : PSt) : Prop where
  mem : s.mem.length = C.E.memN
  n1 : 1 ≤ s.next
  n2 : s.next ≤ C.E.memN
  pos : s.pos ≤ C.E.inp.length
  out : s.out.length ≤ 4096
  s1 : 0 ≤ s.steps
  s2 : s.steps ≤ C.E.fuel
  o1 : 0 ≤ s.opened
  o2 : s.opened ≤ 1200
section
variable {C : TC} {s : PSt}
theorem TGood.step (h : TGood C s) (hn : ¬ s.steps = C.E.fuel) : TGood C { s with steps := s.steps + 1 } :=
  ⟨h.mem, h.n1, h.n2, h.pos, h.out, by have := h.s1; show 0 ≤ s.steps + 1; omega, by have := h.s2; show s.steps + 1 ≤ _; omega, h.o1, h.o2⟩
theorem TGood.set (h : TGood C s) (k : Nat) (v : Int) : TGood C { s with mem := s.mem.set k v } := ⟨by show (s.mem.set k v).length = _; rw [List.length_set]; exact h.mem, h.n1, h.n2, h.pos, h.out, h.s1, h.s2, h.o1, h.o2⟩
theorem TGood.take (h : TGood C s) {n : Int} (h0 : 0 ≤ n) (h1 : n ≤ (C.E.memN : Int) - s.next) : TGood C { s with next := s.next + n } :=
  ⟨h.mem, by have := h.n1; show 1 ≤ s.next + n; omega, by show s.next + n ≤ _; omega, h.pos, h.out, h.s1, h.s2, h.o1, h.o2⟩
theorem TGood.read (h : TGood C s) (hp : s.pos < C.E.inp.length) : TGood C { s with pos := s.pos + 1 } := ⟨h.mem, h.n1, h.n2, hp, h.out, h.s1, h.s2, h.o1, h.o2⟩
theorem TGood.write (h : TGood C s) (hp : s.out.length < 4096) (b : Int) : TGood C { s with out := s.out ++ [b] } := ⟨h.mem, h.n1, h.n2, h.pos, by show (s.out ++ [b]).length ≤ _; rw [List.length_append]; exact hp, h.s1, h.s2, h.o1, h.o2⟩
theorem TGood.enter (h : TGood C s) (hp : ¬ s.opened = 1200) : TGood C { s with opened := s.opened + 1 } := ⟨h.mem, h.n1, h.n2, h.pos, h.out, h.s1, h.s2, by have := h.o1; show 0 ≤ s.opened + 1; omega, by have := h.o2; show s.opened + 1 ≤ _; omega⟩
theorem TGood.leave (h : TGood C s) (h1 : 1 ≤ s.opened) : TGood C { s with opened := s.opened - 1 } :=
  ⟨h.mem, h.n1, h.n2, h.pos, h.out, h.s1, h.s2, by show 0 ≤ s.opened - 1; omega, by have := h.o2; show s.opened - 1 ≤ 1200; omega⟩
theorem tbyte_in (hC : C.WF) {p : Nat} : 0 ≤ C.E.inp.getD p 0 ∧ C.E.inp.getD p 0 ≤ 255 := by
  by_cases h : p < C.E.inp.length
  · have : C.E.inp.getD p 0 = C.E.inp[p] := by simp [List.getD, h]
    rw [this]
    exact hC.bytes _ (List.getElem_mem h)
  · have : C.E.inp.getD p 0 = 0 := by simp [List.getD, h]
    rw [this]
    omega
end
def TV {α : Type} (C : TC) (S : Nat → Prop) (w : World) (f : α → Value) (g : Got α) (v : Value) (w' : World) : Prop :=
  ∃ x s oA oc, g = .ok x s ∧ v = f x ∧ TGood C s ∧ Mem S w w' (tunL C s oA oc)
def TP {α : Type} (C : TC) (S : Nat → Prop) (w : World) (g : Got α) (v : Value) (w' : World) : Prop :=
  ∃ k c s oA oc, g = .stop k c s ∧ v = endT k c ∧ TGood C s ∧ Mem S w w' (tunL C s oA oc)
abbrev tS (C : TC) (s : PSt) (oA : Option Addr) (oc : Nat) : Nat → Prop := (Res.pk (tunL C s oA oc)).fp
def TCalls {α : Type} (P : Program) (C : TC) (s : PSt) (oA : Option Addr) (oc : Nat) (w : World) (fn : FuncId) (args : List Value) (f : α → Value) (g : Got α) : Prop :=
  Calls P fn args.toArray w (REnds (TV C (tS C s oA oc) w f g) (TP C (tS C s oA oc) w g))
abbrev frmB (cb la m : Nat) (f : Frm) : Res := .blk cb 120 [.slice (some ⟨la, 0, none⟩) m m, .int .i64 f.deep, .int .i64 f.back]
abbrev frmR (la m : Nat) (f : Frm) : Res := .row 2 1 (some ⟨la, 0, none⟩) m m (ints f.loc)
abbrev frmL (cb la m : Nat) (f : Frm) : List Res := [frmB cb la m f, frmR la m f]
def ExOk (P : Program) (C : TC) (fn : FuncId) (ev : List Int → MEx → PSt → Got Int) (b : Int) : Prop :=
  ∀ (e : MEx) (f : Frm) (cb la m : Nat) (s : PSt) (oA : Option Addr) (oc : Nat) (w : World), TGood C s → C.E.fuel - s.steps < b → (Res.pk (tunL C s oA oc)).holds w → RO (tS C s oA oc) w C.ro →
    SubE C.T e → ExW (m : Int) e → f.loc.length = m → RO (tS C s oA oc) w (frmB cb la m f) → RO (tS C s oA oc) w (.rd (some ⟨la, 0, none⟩) (ints f.loc)) →
    TCalls P C s oA oc w fn [pT C.r 0, pT cb 0, .agg e.cells.toArray] intV (ev f.loc e s)
def CallT (P : Program) (C : TC) (fn : FuncId) (call : Int → List Int → PSt → Got Int) (b : Int) : Prop :=
  ∀ (n : Int) (l : List Int) (bA : Option Addr) (bc : Nat) (s : PSt) (oA : Option Addr) (oc : Nat) (w : World), TGood C s → C.E.fuel - s.steps < b → (Res.pk (tunL C s oA oc)).holds w → RO (tS C s oA oc) w C.ro →
    RO (tS C s oA oc) w (.rd bA (ints l)) → l.length ≤ 17 → TCalls P C s oA oc w fn [pT C.r 0, .int .i64 n, .slice bA l.length bc] intV (call n l s)
abbrev fS (C : TC) (s : PSt) (oA : Option Addr) (oc cb la m : Nat) (f : Frm) : Nat → Prop := (Res.pk (tunL C s oA oc ++ frmL cb la m f)).fp
def SV (C : TC) (S : Nat → Prop) (w : World) (cb la m : Nat) (g : Got (Int × Frm)) (v : Value) (w' : World) : Prop :=
  ∃ how f s oA oc, g = .ok (how, f) s ∧ v = .int .i64 how ∧ TGood C s ∧ f.loc.length = m ∧ Mem S w w' (tunL C s oA oc ++ frmL cb la m f)
def SCalls (P : Program) (C : TC) (f : Frm) (cb la m : Nat) (s : PSt) (oA : Option Addr) (oc : Nat) (w : World) (fn : FuncId) (args : List Value) (g : Got (Int × Frm)) : Prop :=
  Calls P fn args.toArray w (REnds (SV C (fS C s oA oc cb la m f) w cb la m g) (TP C (fS C s oA oc cb la m f) w g))
def StOk (P : Program) (C : TC) (fn : FuncId) (st : MSt → Frm → PSt → Got (Int × Frm)) (b : Int) : Prop :=
  ∀ (x : MSt) (f : Frm) (cb la m : Nat) (s : PSt) (oA : Option Addr) (oc : Nat) (w : World), TGood C s → C.E.fuel - s.steps < b → (Res.pk (tunL C s oA oc ++ frmL cb la m f)).holds w → RO (fS C s oA oc cb la m f) w C.ro →
    SubX C.T x → StW (m : Int) x → f.loc.length = m → SCalls P C f cb la m s oA oc w fn [pT C.r 0, pT cb 0, .agg x.cells.toArray] (st x f s)
end Go.Mor
namespace Go.Mor
open Go.RowKit
structure FDat where
  nm : ByteArray
  wk : Bool
  wA : Option Addr
  wc : Nat
  words : List Int
  rA : Option Addr
  rc : Nat
  refs : List (Int × ByteArray)
def FDat.cells (d : FDat) : List Value := [.string d.nm, .bool d.wk, .slice d.wA d.words.length d.wc, .slice d.rA d.refs.length d.rc]
def refCells (r : Int × ByteArray) : List Value := [.int .i64 r.1, .string r.2]
instance : LawfulBEq ByteArray where
  eq_of_beq {a b} h := by simpa [MapKept.bytes_beq] using h
  rfl {a} := by simp [MapKept.bytes_beq]
section
variable {α β : Type} [BEq α] [LawfulBEq α]
theorem lkp_upk (s : α) (v : β) (t : α) : ∀ l : List (α × β), lkp (upk l s v) t = if t == s then some v else lkp l t
  | [] => by
    show (match t == s with | true => some v | false => none) = _
    cases t == s <;> rfl
  | (k, u) :: r => by
    have ih := lkp_upk s v t r
    unfold upk
    cases h : s == k with
    | true =>
      have e := eq_of_beq h
      subst e
      show (match t == s with | true => some v | false => lkp r t) = if t == s then some v else (match t == s with | true => some u | false => lkp r t)
      cases t == s <;> rfl
    | false =>
      show (match t == k with | true => some u | false => lkp (upk r s v) t) = if t == s then some v else (match t == k with | true => some u | false => lkp r t)
      cases hk : t == k with
      | true =>
        have e := eq_of_beq hk
        subst e
        have : (t == s) = false := by
          cases hq : t == s
          · rfl
          · have e2 := eq_of_beq hq; subst e2; rw [BEq.rfl] at h; cases h
        rw [this]; rfl
      | false => rw [ih]
theorem lkp_mem {l : List (α × β)} {s : α} {v : β} (h : lkp l s = some v) : (s, v) ∈ l := by
  induction l with
  | nil => cases h
  | cons p r ih =>
    obtain ⟨k, u⟩ := p
    unfold lkp at h
    split at h
    · rename_i hq
      have e := eq_of_beq hq
      subst e
      injection h with h
      subst h
      exact List.mem_cons_self ..
    · exact List.mem_cons_of_mem _ (ih h)
theorem lkp_none {l : List (α × β)} {s : α} (h : s ∉ l.map (·.1)) : lkp l s = none := by
  induction l with
  | nil => rfl
  | cons p r ih =>
    obtain ⟨k, u⟩ := p
    simp only [List.map_cons, List.mem_cons, not_or] at h
    unfold lkp
    rw [beq_eq_false_iff_ne.2 h.1]
    exact ih h.2
theorem upk_new {s : α} (v : β) : ∀ {l : List (α × β)}, s ∉ l.map (·.1) → upk l s v = l ++ [(s, v)]
  | [], _ => rfl
  | (k, u) :: r, h => by
    simp only [List.map_cons, List.mem_cons, not_or] at h
    unfold upk
    rw [beq_eq_false_iff_ne.2 h.1]
    show (k, u) :: upk r s v = _
    rw [upk_new v h.2]
    rfl
theorem lkp_snoc {l : List (α × β)} {s : α} {v : β} (h : s ∉ l.map (·.1)) (t : α) : lkp (l ++ [(s, v)]) t = if t == s then some v else lkp l t := by
  rw [← upk_new v h, lkp_upk]
end
abbrev NW := List (ByteArray × Bool)
def beatsB (nw : NW) (k i : Nat) : Bool := match nw[k]?, nw[i]? with
  | some x, some y => x.1 == y.1 && ((!x.2 && y.2) || (x.2 == y.2 && decide (k < i)))
  | _, _ => false
def bestB (nw : NW) (i : Nat) : Bool := (List.range nw.length).all fun k => !beatsB nw k i
def bestM (nw : NW) : Nat → List (ByteArray × Int)
  | 0 => []
  | k + 1 => match nw[k]? with
    | none => bestM nw k
    | some x => match lkp (bestM nw k) x.1 with
      | none => upk (bestM nw k) x.1 (k : Int)
      | some a => match nw[a.toNat]? with
        | none => bestM nw k
        | some y => if (!y.2 || x.2) = true then bestM nw k else upk (bestM nw k) x.1 (k : Int)
section
variable {nw : NW} {k i j : Nat} {x y : ByteArray × Bool}
theorem beats_at (hk : nw[k]? = some x) (hi : nw[i]? = some y) : beatsB nw k i = (x.1 == y.1 && ((!x.2 && y.2) || (x.2 == y.2 && decide (k < i)))) := by unfold beatsB; rw [hk, hi]
theorem beats_not (h : beatsB nw k i = true) : beatsB nw i k = false := by
  unfold beatsB at h
  split at h
  · rename_i x y hx hy
    rw [beats_at hy hx]
    simp only [Bool.and_eq_true, Bool.or_eq_true, beq_iff_eq, Bool.not_eq_true', decide_eq_true_eq] at h
    obtain ⟨h1, h2⟩ := h
    rcases h2 with ⟨h2, h3⟩ | ⟨h2, h3⟩
    · simp [h2, h3]
    · simp [h2]; omega
  · cases h
theorem bestB_iff : bestB nw i = true ↔ ∀ k, k < nw.length → beatsB nw k i = false := by
  unfold bestB
  simp [List.all_eq_true]
theorem bestM_spec (nw : NW) : ∀ (k : Nat), k ≤ nw.length → ∀ s : ByteArray, match lkp (bestM nw k) s with
    | none => ∀ (i : Nat) y, i < k → nw[i]? = some y → y.1 ≠ s
    | some a => ∃ (j : Nat) (x : ByteArray × Bool), a = (j : Int) ∧ j < k ∧ nw[j]? = some x ∧ x.1 = s ∧ ∀ (i : Nat) y, i < k → nw[i]? = some y → y.1 = s → i ≠ j → beatsB nw j i = true
  | 0, _, s => by
    show ∀ (i : Nat) y, i < 0 → nw[i]? = some y → y.1 ≠ s
    intro i y h; omega
  | k + 1, hk, s => by
    have ih := bestM_spec nw k (by omega)
    obtain ⟨x, hx⟩ := get_of (l := nw) (i := k) (by omega)
    -- what there is when nothing turned
    have keep : (∃ (j : Nat) (z : ByteArray × Bool), j < k ∧ nw[j]? = some z ∧ z.1 = x.1 ∧ (!z.2 || x.2) = true ∧ lkp (bestM nw k) x.1 = some (j : Int)) → bestM nw (k + 1) = bestM nw k → match lkp (bestM nw (k + 1)) s with
        | none => ∀ (i : Nat) y, i < k + 1 → nw[i]? = some y → y.1 ≠ s
        | some a => ∃ (j : Nat) (x : ByteArray × Bool), a = (j : Int) ∧ j < k + 1 ∧ nw[j]? = some x ∧ x.1 = s ∧ ∀ (i : Nat) y, i < k + 1 → nw[i]? = some y → y.1 = s → i ≠ j → beatsB nw j i = true := by
      rintro ⟨j, z, hj, hz, hzx, hw, hl⟩ he
      rw [he]
      have hs := ih s
      cases hq : lkp (bestM nw k) s with
      | none =>
        rw [hq] at hs
        intro i y hi hy
        by_cases e : i = k
        · subst e
          rw [hx] at hy
          injection hy with hy
          subst hy
          rintro rfl
          rw [hl] at hq
          cases hq
        · exact hs i y (by omega) hy
      | some a =>
        rw [hq] at hs
        obtain ⟨j2, x2, ha, hj2, hx2, hs2, hb⟩ := hs
        refine ⟨j2, x2, ha, by omega, hx2, hs2, fun i y hi hy hys hne => ?_⟩
        by_cases e : i = k
        · subst e
          rw [hx] at hy
          injection hy with hy
          subst hy
          subst hys
          rw [hl] at hq
          injection hq with hq
          have e2 : j = j2 := by omega
          subst e2
          rw [hz] at hx2
          injection hx2 with hx2
          subst hx2
          rw [beats_at hz hx, hzx]
          simp only [BEq.rfl, Bool.true_and]
          cases h1 : z.2 <;> cases h2 : x.2 <;> simp [h1, h2] at hw ⊢ <;> omega
        · exact hb i y (by omega) hy hys hne
    -- what there is when it turned
    have turn : (∀ (i : Nat) y, i < k → nw[i]? = some y → y.1 = x.1 → beatsB nw k i = true) → bestM nw (k + 1) = upk (bestM nw k) x.1 (k : Int) → match lkp (bestM nw (k + 1)) s with
        | none => ∀ (i : Nat) y, i < k + 1 → nw[i]? = some y → y.1 ≠ s
        | some a => ∃ (j : Nat) (x : ByteArray × Bool), a = (j : Int) ∧ j < k + 1 ∧ nw[j]? = some x ∧ x.1 = s ∧ ∀ (i : Nat) y, i < k + 1 → nw[i]? = some y → y.1 = s → i ≠ j → beatsB nw j i = true := by
      intro hall he
      rw [he, lkp_upk]
      by_cases e : s = x.1
      · subst e
        rw [BEq.rfl]
        exact ⟨k, x, rfl, by omega, hx, rfl, fun i y hi hy hys hne => hall i y (by omega) hy hys⟩
      · rw [beq_eq_false_iff_ne.2 e]
        simp only [Bool.false_eq_true, if_false]
        have hs := ih s
        cases hq : lkp (bestM nw k) s with
        | none =>
          rw [hq] at hs
          intro i y hi hy
          by_cases e2 : i = k
          · subst e2
            rw [hx] at hy
            injection hy with hy
            subst hy
            exact fun h => e h.symm
          · exact hs i y (by omega) hy
        | some a =>
          rw [hq] at hs
          obtain ⟨j2, x2, ha, hj2, hx2, hs2, hb⟩ := hs
          refine ⟨j2, x2, ha, by omega, hx2, hs2, fun i y hi hy hys hne => ?_⟩
          by_cases e2 : i = k
          · subst e2
            rw [hx] at hy
            injection hy with hy
            subst hy
            exact absurd hys.symm e
          · exact hb i y (by omega) hy hys hne
    have hd : bestM nw (k + 1) = match lkp (bestM nw k) x.1 with
      | none => upk (bestM nw k) x.1 (k : Int)
      | some a => match nw[a.toNat]? with
        | none => bestM nw k
        | some y => if (!y.2 || x.2) = true then bestM nw k else upk (bestM nw k) x.1 (k : Int) := by
      show (match nw[k]? with
        | none => bestM nw k
        | some x => match lkp (bestM nw k) x.1 with
          | none => upk (bestM nw k) x.1 (k : Int)
          | some a => match nw[a.toNat]? with
            | none => bestM nw k
            | some y => if (!y.2 || x.2) = true then bestM nw k else upk (bestM nw k) x.1 (k : Int)) = _
      rw [hx]
    have hs := ih x.1
    cases hq : lkp (bestM nw k) x.1 with
    | none =>
      rw [hq] at hs hd
      exact turn (fun i y hi hy hys => absurd hys (hs i y hi hy)) hd
    | some a =>
      rw [hq] at hs hd
      obtain ⟨j2, x2, ha, hj2, hx2, hs2, hb⟩ := hs
      subst ha
      have hd2 : bestM nw (k + 1) = if (!x2.2 || x.2) = true then bestM nw k else upk (bestM nw k) x.1 (k : Int) := by
        rw [hd]
        show (match nw[((j2 : Int)).toNat]? with
          | none => bestM nw k
          | some y => if (!y.2 || x.2) = true then bestM nw k else upk (bestM nw k) x.1 (k : Int)) = _
        rw [Int.toNat_natCast, hx2]
      by_cases hw : (!x2.2 || x.2) = true
      · rw [if_pos hw] at hd2
        exact keep ⟨j2, x2, hj2, hx2, hs2, hw, hq⟩ hd2
      · rw [if_neg hw] at hd2
        refine turn (fun i y hi hy hys => ?_) hd2
        rw [beats_at hx hy, hys]
        simp only [BEq.rfl, Bool.true_and]
        by_cases e : i = j2
        · subst e
          rw [hx2] at hy
          injection hy with hy
          subst hy
          cases h1 : x2.2 <;> cases h2 : x.2 <;> simp [h1, h2] at hw ⊢
        · have := hb i y hi hy hys e
          rw [beats_at hx2 hy] at this
          cases h1 : x2.2 <;> cases h2 : x.2 <;> cases h3 : y.2 <;> simp [h1, h2, h3] at hw this ⊢
theorem bestM_self (hx : nw[i]? = some x) : lkp (bestM nw nw.length) x.1 = some (i : Int) ↔ bestB nw i = true := by
  have hi := (List.getElem?_eq_some_iff.1 hx).1
  have hs := bestM_spec nw nw.length (Nat.le_refl _) x.1
  rw [bestB_iff]
  constructor
  · intro h k hk
    rw [h] at hs
    obtain ⟨j, z, hj, hjl, hz, hzx, hb⟩ := hs
    have e : j = i := by omega
    subst e
    obtain ⟨y, hy⟩ := get_of hk
    by_cases hys : y.1 = x.1
    · by_cases e : k = j
      · subst e
        rw [hx] at hy
        injection hy with hy
        subst hy
        rw [beats_at hx hx]
        cases x.2 <;> simp
      · exact beats_not (hb k y hk hy hys e)
    · rw [beats_at hy hx, beq_eq_false_iff_ne.2 hys]
      rfl
  · intro h
    cases hq : lkp (bestM nw nw.length) x.1 with
    | none => rw [hq] at hs; exact absurd rfl (hs i x hi hx)
    | some a =>
      rw [hq] at hs
      obtain ⟨j, z, hj, hjl, hz, hzx, hb⟩ := hs
      by_cases e : i = j
      · subst e; rw [hj]
      · have h1 := hb i x hi hx rfl e
        rw [h j hjl] at h1
        cases h1
theorem bestM_has (hx : nw[i]? = some x) : ∃ a : Int, lkp (bestM nw nw.length) x.1 = some a := by
  have hi := (List.getElem?_eq_some_iff.1 hx).1
  have hs := bestM_spec nw nw.length (Nat.le_refl _) x.1
  cases hq : lkp (bestM nw nw.length) x.1 with
  | none => rw [hq] at hs; exact absurd rfl (hs i x hi hx)
  | some a => exact ⟨a, rfl⟩
end
def chosenTo {α : Type} (nw : NW) (l : List α) (i : Nat) : List α := ((List.range i).filter (bestB nw)).filterMap (fun k => l[k]?)
section
variable {α : Type} {nw : NW} {l : List α} {i : Nat} {x : α}
theorem chosenTo_zero : chosenTo nw l 0 = [] := rfl
theorem chosenTo_yes (hx : l[i]? = some x) (h : bestB nw i = true) : chosenTo nw l (i + 1) = chosenTo nw l i ++ [x] := by
  unfold chosenTo
  rw [List.range_succ, List.filter_append, List.filterMap_append]
  simp [h, hx]
theorem chosenTo_no (h : bestB nw i = false) : chosenTo nw l (i + 1) = chosenTo nw l i := by
  unfold chosenTo
  rw [List.range_succ, List.filter_append, List.filterMap_append]
  simp [h]
theorem chosenTo_len : (chosenTo nw l i).length ≤ i := by
  unfold chosenTo
  refine Nat.le_trans (List.length_filterMap_le _ _) (Nat.le_trans (List.length_filter_le _ _) ?_)
  simp
theorem chosenTo_mem (h : x ∈ chosenTo nw l i) : x ∈ l := by
  unfold chosenTo at h
  obtain ⟨k, _, hk⟩ := List.mem_filterMap.1 h
  exact List.mem_of_getElem? hk
end
theorem chosen_nodup {α : Type} {key : α → ByteArray × Bool} {l : List α} : ∀ i, i ≤ l.length → ((chosenTo (l.map key) l i).map (fun x => (key x).1)).Nodup
  | 0, _ => by simp [chosenTo_zero]
  | i + 1, hi => by
    have ih := chosen_nodup (key := key) (l := l) i (by omega)
    obtain ⟨x, hx⟩ := get_of (l := l) (i := i) (by omega)
    cases hb : bestB (l.map key) i with
    | false => rw [chosenTo_no hb]; exact ih
    | true =>
      rw [chosenTo_yes hx hb, List.map_append, List.nodup_append]
      refine ⟨ih, by simp, ?_⟩
      intro a ha b hb2
      simp only [List.map_cons, List.map_nil, List.mem_singleton] at hb2
      subst hb2
      obtain ⟨y, hy, rfl⟩ := List.mem_map.1 ha
      unfold chosenTo at hy
      obtain ⟨k, hk, hky⟩ := List.mem_filterMap.1 hy
      obtain ⟨hk1, hk2⟩ := List.mem_filter.1 hk
      have hki : k < i := by simpa using hk1
      intro he
      have hx' : (l.map key)[i]? = some (key x) := by rw [List.getElem?_map, hx]; rfl
      have hy' : (l.map key)[k]? = some (key y) := by rw [List.getElem?_map, hky]; rfl
      have h1 := bestB_iff.1 hb k (by simp; omega)
      have h2 := bestB_iff.1 hk2 i (by simp; omega)
      rw [beats_at hy' hx', he] at h1
      rw [beats_at hx' hy', he] at h2
      cases h3 : (key x).2 <;> cases h4 : (key y).2 <;> simp [h3, h4] at h1 h2 <;> omega
def nextTo (ds : List FDat) (j : Nat) : Nat := 1 + ((ds.take j).map (fun d => d.words.length)).sum
def dataTo (ds : List FDat) (j : Nat) : List (ByteArray × Int) := (ds.take j).zipIdx.map (fun p => (p.1.nm, (nextTo ds p.2 : Int)))
theorem nextTo_zero (ds : List FDat) : nextTo ds 0 = 1 := rfl
section
variable {ds : List FDat} {j : Nat} {d : FDat}
theorem nextTo_succ (h : ds[j]? = some d) : nextTo ds (j + 1) = nextTo ds j + d.words.length := by
  have h1 := (List.getElem?_eq_some_iff.1 h)
  unfold nextTo
  rw [List.take_add_one, h]
  simp
  omega
theorem nextTo_mono : ∀ {i : Nat}, j ≤ i → nextTo ds j ≤ nextTo ds i := by
  intro i h
  induction h with
  | refl => exact Nat.le_refl _
  | step h ih =>
    rename_i m
    refine Nat.le_trans ih ?_
    cases hm : ds[m]? with
    | none =>
      unfold nextTo
      rw [List.take_add_one, hm]
      simp
    | some d => rw [nextTo_succ hm]; omega
theorem nextTo_pos : 1 ≤ nextTo ds j := by unfold nextTo; omega
theorem nextTo_le (hw : ∀ d, d ∈ ds → d.words.length ≤ 16384) : ∀ (j : Nat), j ≤ ds.length → nextTo ds j ≤ 1 + j * 16384
  | 0, _ => by rw [nextTo_zero]; omega
  | j + 1, hj => by
    obtain ⟨d, hd⟩ := get_of (l := ds) (i := j) (by omega)
    have := nextTo_le hw j (by omega)
    have := hw d (List.mem_of_getElem? hd)
    rw [nextTo_succ hd]
    omega
theorem dataTo_zero : dataTo ds 0 = [] := by simp [dataTo]
theorem dataTo_succ (h : ds[j]? = some d) : dataTo ds (j + 1) = dataTo ds j ++ [(d.nm, (nextTo ds j : Int))] := by
  unfold dataTo
  rw [zipIdx_take h, List.map_append]
  rfl
theorem dataTo_keys : ∀ (j : Nat), j ≤ ds.length → (dataTo ds j).map (·.1) = (ds.take j).map (·.nm)
  | 0, _ => by simp [dataTo_zero]
  | j + 1, hj => by
    obtain ⟨d, hd⟩ := get_of (l := ds) (i := j) (by omega)
    rw [dataTo_succ hd, List.map_append, dataTo_keys j (by omega), List.take_add_one, hd]
    simp
theorem dataTo_new (hn : (ds.map (·.nm)).Nodup) (h : ds[j]? = some d) : d.nm ∉ (dataTo ds j).map (·.1) := by
  have hj := (List.getElem?_eq_some_iff.1 h).1
  rw [dataTo_keys j (by omega)]
  intro hm
  have e : ds.map (·.nm) = (ds.take j).map (·.nm) ++ (ds.drop j).map (·.nm) := by rw [← List.map_append, List.take_append_drop]
  rw [e, List.nodup_append] at hn
  refine hn.2.2 d.nm hm d.nm ?_ rfl
  rw [List.mem_map]
  exact ⟨d, by
    have : (ds.drop j)[0]? = some d := by rw [List.getElem?_drop]; simpa using h
    exact List.mem_of_getElem? this, rfl⟩
theorem dataTo_up (hn : (ds.map (·.nm)).Nodup) (h : ds[j]? = some d) : upk (vK (dataTo ds j)) d.nm (.int .i64 (nextTo ds j : Int)) = vK (dataTo ds (j + 1)) := by
  rw [upk_new _ (by
    have := dataTo_new hn h
    simpa [vK, List.map_map, Function.comp_def] using this), dataTo_succ h]
  simp [vK]
theorem lkp_dataTo (hn : (ds.map (·.nm)).Nodup) (h : ds[j]? = some d) : ∀ (i : Nat), j < i → i ≤ ds.length → lkp (dataTo ds i) d.nm = some (nextTo ds j : Int)
  | 0, hi, _ => by omega
  | i + 1, hi, hl => by
    obtain ⟨e, he⟩ := get_of (l := ds) (i := i) (by omega)
    rw [dataTo_succ he, lkp_snoc (dataTo_new hn he)]
    by_cases hji : j = i
    · subst hji
      rw [h] at he
      injection he with he
      subst he
      rw [BEq.rfl]
      rfl
    · have ih := lkp_dataTo hn h i (by omega) (by omega)
      have hne : d.nm ≠ e.nm := by
        intro heq
        have := dataTo_new hn he
        rw [← heq] at this
        rw [lkp_none this] at ih
        cases ih
      rw [beq_eq_false_iff_ne.2 hne]
      exact ih
end
def writeAt (m : List Int) (p : Nat) (ws : List Int) : List Int := m.take p ++ ws ++ m.drop (p + ws.length)
def refV (names data : List (ByteArray × Int)) (s : ByteArray) : Int := match lkp data s with
  | some n => n
  | none => (lkp names s).getD 0
def putRefs (names data : List (ByteArray × Int)) (p : Nat) (m : List Int) (rs : List (Int × ByteArray)) : List Int := rs.foldl (fun m r => m.set (p + r.1.toNat) (refV names data r.2)) m
def layTo (names data : List (ByteArray × Int)) (ds : List FDat) (memN : Nat) : Nat → List Int
  | 0 => List.replicate memN 0
  | j + 1 => match ds[j]? with
    | none => layTo names data ds memN j
    | some d => putRefs names data (nextTo ds j) (writeAt (layTo names data ds memN j) (nextTo ds j) d.words) d.refs
section
variable {names data : List (ByteArray × Int)} {ds : List FDat} {memN j : Nat} {d : FDat} {m : List Int} {p : Nat}
theorem writeAt_len {ws : List Int} (h : p + ws.length ≤ m.length) : (writeAt m p ws).length = m.length := by
  unfold writeAt
  simp
  omega
theorem putRefs_len : ∀ (rs : List (Int × ByteArray)) (m : List Int), (putRefs names data p m rs).length = m.length
  | [], _ => rfl
  | r :: rs, m => (putRefs_len rs (m.set (p + r.1.toNat) (refV names data r.2))).trans (by simp)
theorem putRefs_snoc {rs : List (Int × ByteArray)} {r : Int × ByteArray} {q : Nat} (h : rs[q]? = some r) : putRefs names data p m (rs.take (q + 1)) = (putRefs names data p m (rs.take q)).set (p + r.1.toNat) (refV names data r.2) := by
  rw [List.take_add_one, h]
  unfold putRefs
  simp
theorem layTo_succ (h : ds[j]? = some d) : layTo names data ds memN (j + 1) = putRefs names data (nextTo ds j) (writeAt (layTo names data ds memN j) (nextTo ds j) d.words) d.refs := by
  show (match ds[j]? with
    | none => layTo names data ds memN j
    | some d => putRefs names data (nextTo ds j) (writeAt (layTo names data ds memN j) (nextTo ds j) d.words) d.refs) = _
  rw [h]
theorem layTo_len : ∀ (j : Nat), j ≤ ds.length → nextTo ds ds.length ≤ memN → (layTo names data ds memN j).length = memN
  | 0, _, _ => by simp [layTo]
  | j + 1, hj, hm => by
    obtain ⟨d, hd⟩ := get_of (l := ds) (i := j) (by omega)
    have ih := layTo_len j (by omega) hm
    rw [layTo_succ hd, putRefs_len, writeAt_len, ih]
    have := nextTo_mono (ds := ds) (j := j + 1) (i := ds.length) (by omega)
    rw [nextTo_succ hd] at this
    omega
theorem refV_had {n : Int} {s : ByteArray} (h : lkp data s = some n) : refV names data s = n := by unfold refV; rw [h]
theorem refV_not {s : ByteArray} (h : lkp data s = none) : refV names data s = (lkp names s).getD 0 := by unfold refV; rw [h]
end
end Go.Mor
namespace Go.Mor
open Go.RowKit
def slE (P : Program) (c : Code) (N : FN) (env : Env) (k : Nat) : Option (Option Nat × Option Addr × Nat × Nat × Int × Nat) := match coreAt c k with
  | some (d, .slice t x (some y) none none, _, g) => match guardE c g env, okd d N, ev env x, ev env y, P.underlying t with
    | some true, true, some (.slice A n cap), some (.int _ i), some (.slice e) => match (P.info? e).map (·.size) with
      | some size => some (d, A, n, cap, i, size)
      | none => none
    | _, _, _, _, _ => none
  | _ => none
theorem sl_spec {P : Program} {c : Code} {N : FN} {env : Env} {k : Nat} {d : Option Nat} {A : Option Addr} {n cap size : Nat} {i : Int} (h : slE P c N env k = some (d, A, n, cap, i, size)) :
    ∃ t x y ty g e kd, coreAt c k = some (d, .slice t x (some y) none none, ty, g) ∧ guardE c g env = some true ∧ okd d N = true ∧ ev env x = some (.slice A n cap) ∧ ev env y = some (.int kd i) ∧ P.underlying t = some (.slice e) ∧ (P.info? e).map (·.size) = some size := by
  unfold slE at h
  split at h
  · rename_i h0
    split at h
    · rename_i h1 h2 h3 h4 h5
      split at h
      · rename_i h6
        simp only [Option.some.injEq, Prod.mk.injEq] at h
        obtain ⟨rfl, rfl, rfl, rfl, rfl, rfl⟩ := h
        exact ⟨_, _, _, _, _, _, _, h0, h1, h2, h3, h4, h5, h6⟩
      · cases h
    · cases h
  · cases h
abbrev cutV (A : Option Addr) (n cap m size : Nat) : Value := .slice (if cap = m then A else A.map (·.add (m * size))) (n - m) (cap - m)
section
variable {P : Program} {c : Code} {K : Act → World → Prop} {Q : Exit → Act → World → Prop} {w w0 : World} {S : Nat → Prop} {L : List Res} {k : Nat} {N : FN} {env : Env}
theorem zsl {A : Option Addr} {n cap size : Nat} (m : Nat) (hm : m ≤ n) (h : ∀ a, Fr a N (putE env (dstAt c k) (cutV A n cap m size)) → From P c K Q (k + 1) a w) (hk : slE P c N env k = some (dstAt c k, A, n, cap, (m : Int), size)) : ∀ a, Fr a N env → From P c K Q k a w := fun a hF => by
  obtain ⟨t, x, y, ty, g, e, kd, h0, h1, h2, h3, h4, h5, h6⟩ := sl_spec hk
  exact From_sliceLo h0 hF h1 h2 rfl m h3 h4 rfl h5 h6 hm (fun a' _ => h a')
end
section
variable {P : Program} {c : Code} {Q : Exit → Act → World → Prop} {N : FN} {i : Nat} {env0 : Env} {wr : World} {sp : Nat → Spec}
theorem dSl (A : Option Addr) (n cap size m : Nat) (hm : m ≤ n) (hv : sp i = .det (cutV A n cap m size) := by rfl) (hg : ∀ vs, gtE c i (predE c i sp vs env0) = some true := by intro _; kernel_rfl)
    (hk : ∀ us, slE P (one c i) N (predE c i sp us env0) 0 = some (dstAt c i, A, n, cap, (m : Int), size) := by intro _; kernel_rfl) (he : coreAt (one c i) 1 = none := by kernel_rfl) : OpOK P c Q N env0 wr sp i := by
  refine op_of hg (fun w vs hK hp a hF => ?_)
  obtain ⟨t, x, y, ty, g, e, kd, h0, h1, h2, h3, h4, h5, h6⟩ := sl_spec (hk vs)
  exact From_sliceLo h0 hF h1 h2 rfl m h3 h4 rfl h5 h6 hm (fun a' ea _ => From_end he ⟨_, ea, Kp.refl w, by rw [hv]; rfl⟩)
end
theorem rd_cut {w : World} {A : Option Addr} {v : Value} {vs : List Value} {cap : Nat} (h : (Res.rd A (v :: vs)).holds w) (hc : vs.length + 1 ≤ cap) : (Res.rd (if cap = 1 then A else A.map (·.add (1 * 1))) vs).holds w := by
  intro j u hj
  have hjl := (List.getElem?_eq_some_iff.1 hj).1
  obtain ⟨a, hA, hcell⟩ := h (j + 1) u (by simpa using hj)
  rw [if_neg (by omega), hA]
  refine ⟨_, rfl, ?_⟩
  rw [addr_add]
  rwa [show 1 * 1 + j = j + 1 by omega]
theorem RO.rd_cut {S : Nat → Prop} {w : World} {A : Option Addr} {v : Value} {vs : List Value} {cap : Nat} (h : RO S w (.rd A (v :: vs))) (hc : vs.length + 1 ≤ cap) : RO S w (.rd (if cap = 1 then A else A.map (·.add (1 * 1))) vs) := by
  refine ⟨Mor.rd_cut h.1 hc, fun g hg => h.2 g ?_⟩
  obtain ⟨hne, a, ha, hb⟩ := hg
  refine ⟨by simp, ?_⟩
  split at ha
  · exact ⟨a, ha, hb⟩
  · cases A with
    | none => cases ha
    | some a0 =>
      injection ha with ha
      subst ha
      exact ⟨a0, rfl, by rw [← hb, block_add]⟩
end Go.Mor
namespace Go.Mor
open Go.RowKit
section
variable {P : Program} {c : Code} {K : Act → World → Prop} {Q : Exit → Act → World → Prop} {w : World} {k : Nat} {N : FN} {env : Env}
end
end Go.Mor
namespace Go.Mor
theorem inB_pan {id : Nat} {K : Act → World → Prop} {Q : Exit → Act → World → Prop} {a : Act} {w : World} {v : Value} (h : Q (pan v) a w) : inB id K Q (pan v) a w := h
end Go.Mor
namespace Go.Mor
open Go.RowKit
section
variable {P : Program} {c : Code} {K : Act → World → Prop} {Q : Exit → Act → World → Prop} {w w0 : World} {S : Nat → Prop} {L : List Res} {k : Nat} {N : FN} {env : Env}
def cpE (P : Program) (c : Code) (N : FN) (env : Env) (k : Nat) : Option (Option Nat × Nat × Nat × Option Addr × Nat) := match coreAt c k with
  | some (d, .call { callee := .builtin .copy, args := args, argTypes := ts }, _, g) => match args.toList, ts.toList, guardE c g env, okd d N with
    | [x, y], [t, _], some true, true => match ev env x, ev env y, P.underlying t with
      | some (.slice (some ⟨b, 0, none⟩) dn _), some (.slice A m _), some (.slice e) => match (P.info? e).map (·.size) with
        | some 1 => some (d, b, dn, A, m)
        | _ => none
      | _, _, _ => none
    | _, _, _, _ => none
  | _ => none
theorem zcp (hM : Mem S w0 w L) (i : Nat) {e b n dn m rc : Nat} {A : Option Addr} {xs cs : List Value} (hL : L[i]? = some (.row e 1 (some ⟨b, 0, none⟩) n rc cs)) (hsrc : (Res.rd A xs).holds w) (hn : m = xs.length) (hnd : m ≤ dn) (hl : xs.length ≤ cs.length) (h1 : ∀ v ∈ xs, v.oneCell' = true)
    (h : ∀ w', Mem S w0 w' (L.set i (.row e 1 (some ⟨b, 0, none⟩) n rc (xs ++ cs.drop xs.length))) → ∀ a, Fr a N (putE env (dstAt c k) (goInt xs.length)) → From P c K Q (k + 1) a w') (hk : cpE P c N env k = some (dstAt c k, b, dn, A, m)) : ∀ a, Fr a N env → From P c K Q k a w := fun a hF => by
  unfold cpE at hk
  split at hk
  · rename_i d0 args ts ty g h0
    split at hk
    · rename_i x y t u hx hy h1' h2'
      have hx' : args = #[x, y] := by apply Array.ext'; simpa using hx
      have hy' : ts = #[t, u] := by apply Array.ext'; simpa using hy
      subst hx' hy'
      split at hk
      · rename_i b0 dn0 dc0 A0 m0 c0 e0 h3 h4 h5
        split at hk
        · rename_i h6
          simp only [Option.some.injEq, Prod.mk.injEq] at hk
          obtain ⟨rfl, rfl, rfl, rfl, rfl⟩ := hk
          exact From_copyR h0 hF h1' h2' rfl h5 h6 h3 h4 hM i hL hsrc hn hnd hl h1 (fun w' hM' a' _ => h w' hM' a')
        · cases hk
      · cases hk
    · cases hk
  · cases hk
end
end Go.Mor
namespace Go.Mor
open Go.RowKit
def coE (P : Program) (c : Code) (N : FN) (env : Env) (k : Nat) : Option (Option Nat × Option Addr × Nat × Option Addr × Nat) := match coreAt c k with
  | some (d, .call { callee := .builtin .copy, args := args, argTypes := ts }, _, g) => match args.toList, ts.toList, guardE c g env, okd d N with
    | [x, y], [t, _], some true, true => match ev env x, ev env y, P.underlying t with
      | some (.slice D dn _), some (.slice A m _), some (.slice e) => match (P.info? e).map (·.size) with
        | some 1 => some (d, D, dn, A, m)
        | _ => none
      | _, _, _ => none
    | _, _, _, _ => none
  | _ => none
section
variable {P : Program} {c : Code} {K : Act → World → Prop} {Q : Exit → Act → World → Prop} {w w0 : World} {S : Nat → Prop} {L : List Res} {k k' : Nat} {N : FN} {env : Env}
theorem From_copyO {a : Act} {d : Option Nat} {ty : Nat} {g : Option (Nat × Bool)} {t u : TypeId} {x y : Operand} (hk : coreAt c k = some (d, .call { callee := .builtin .copy, args := #[x, y], argTypes := #[t, u] }, ty, g)) (hF : Fr a N env) (hg : guardE c g env = some true) (hd : okd d N = true)
    {e e' b n dn dc m cap rc : Nat} (o : Nat) {D A : Option Addr} {xs cs : List Value} (ht : P.underlying t = some (.slice e)) (hs : (P.info? e).map (·.size) = some 1) (hx : ev env x = some (.slice D dn dc)) (hy : ev env y = some (.slice A m cap))
    (hD : xs = [] ∨ D = some ⟨b, o, none⟩)
    (hM : Mem S w0 w L) (i : Nat) (hL : L[i]? = some (.row e' 1 (some ⟨b, 0, none⟩) n rc cs)) (hsrc : (Res.rd A xs).holds w) (hn : m = xs.length) (hnd : m ≤ dn) (hl : o + xs.length ≤ cs.length) (h1 : ∀ v ∈ xs, v.oneCell' = true)
    (h : ∀ w', Mem S w0 w' (L.set i (.row e' 1 (some ⟨b, 0, none⟩) n rc (cs.take o ++ xs ++ cs.drop (o + xs.length)))) → ∀ a', a' = a.put d (goInt xs.length) → Fr a' N (putE env d (goInt xs.length)) → From P c K Q (k + 1) a' w') : From P c K Q k a w := by
  have hb := hM.get i hL
  have hmin : Nat.min m dn = m := Nat.min_eq_left hnd
  have hrun : (Builtin.copy_ #[t, u] ty #[.slice D dn dc, .slice A m cap]).run P w = .ok (goInt xs.length) (w.setCells b o xs) := by
    cases xs with
    | nil =>
      have : m = 0 := hn
      subst this
      exact run_copy_none w t u ty e D A dn dc 0 cap ht hs (by simp)
    | cons v vs =>
      obtain rfl := hD.resolve_left (by simp)
      obtain ⟨ad, hA, _⟩ := hsrc 0 v rfl
      subst hA
      refine run_copy_cells w t u ty e b o dn dc ad m cap (v :: vs) ht hs (by rw [hmin, hn]) (fun j u hj => ?_) (fun j hj => ?_) (fun j hj => ?_) h1
      · obtain ⟨a', ha', hc⟩ := hsrc j u hj
        injection ha' with ha'
        subst ha'
        exact hc
      · obtain ⟨a', ha', hc⟩ := row_rd hb (o + j) (cs[o + j]'(by omega)) (by rw [List.getElem?_eq_getElem])
        injection ha' with ha'
        subst ha'
        rw [add_blk] at hc
        rw [hc]; rfl
      · have h2 := row_frozen hb (o + j)
        rw [add_blk] at h2
        exact h2
  have hm := setCells_row xs o cs w hb hl
  have hm2 := hM.mod i hL hm
  refine From_val hk hF hg (v := goInt xs.length) (w' := w.setCells b o xs) (fun o ho hty => ?_) (h _ (by simpa using hm2) _ rfl (hF.put hd _))
  unfold execOp
  rw [ho, hty]
  simp only [resolve, invoke, builtin, Sem.run_bind, Sem.run_pure, Result.andThen_ok, List.map_toArray, List.map_cons, List.map_nil, hF.ev hx, hF.ev hy, hrun]
theorem zco (hM : Mem S w0 w L) (i o : Nat) {e b n dn m rc : Nat} {D A : Option Addr} {xs cs : List Value} (hL : L[i]? = some (.row e 1 (some ⟨b, 0, none⟩) n rc cs)) (hD : xs = [] ∨ D = some ⟨b, o, none⟩) (hsrc : (Res.rd A xs).holds w) (hn : m = xs.length) (hnd : m ≤ dn) (hl : o + xs.length ≤ cs.length) (h1 : ∀ v ∈ xs, v.oneCell' = true)
    (h : ∀ w', Mem S w0 w' (L.set i (.row e 1 (some ⟨b, 0, none⟩) n rc (cs.take o ++ xs ++ cs.drop (o + xs.length)))) → ∀ a, Fr a N (putE env (dstAt c k) (goInt xs.length)) → From P c K Q (k + 1) a w') (hk : coE P c N env k = some (dstAt c k, D, dn, A, m)) : ∀ a, Fr a N env → From P c K Q k a w := fun a hF => by
  unfold coE at hk
  split at hk
  · rename_i d0 args ts ty g h0
    split at hk
    · rename_i x y t u hx hy h1' h2'
      have hx' : args = #[x, y] := by apply Array.ext'; simpa using hx
      have hy' : ts = #[t, u] := by apply Array.ext'; simpa using hy
      subst hx' hy'
      split at hk
      · rename_i D0 dn0 dc0 A0 m0 c0 e0 h3 h4 h5
        split at hk
        · rename_i h6
          simp only [Option.some.injEq, Prod.mk.injEq] at hk
          obtain ⟨rfl, rfl, rfl, rfl, rfl⟩ := hk
          exact From_copyO h0 hF h1' h2' o h5 h6 h3 h4 hD hM i hL hsrc hn hnd hl h1 (fun w' hM' a' _ => h w' hM' a')
        · cases hk
      · cases hk
    · cases hk
  · cases hk
theorem zlv {kt e t : TypeId} {kd : TypeDesc} {α : Type} [BEq α] {inj : α → Value} (KL : KLaw P kt kd inj) (s : α) (z : Value) {b : Nat} {l : List (α × Value)} (hm : MapIs w b (inK inj l)) (ok : Bool) {v : Value} (e' : lkV ok (lkp l s) z = v) (h : ∀ a, Fr a N (putE env (dstAt c k) v) → From P c K Q (k + 1) a w)
    (ht : P.underlying t = some (.map kt e)) (hz : (P.info? e).map (·.zero) = some (some z) := by kernel_rfl) (hk : lkE c N env k = some (dstAt c k, t, b, inj s, ok) := by kernel_rfl) : ∀ a, Fr a N env → From P c K Q k a w := by
  subst e'
  exact zlk KL s z hm ok h ht hz hk
theorem zsv {A : Option Addr} {n cap size : Nat} (m : Nat) (hm : m ≤ n) {v : Value} (e : cutV A n cap m size = v) (h : ∀ a, Fr a N (putE env (dstAt c k) v) → From P c K Q (k + 1) a w) (hk : slE P c N env k = some (dstAt c k, A, n, cap, (m : Int), size)) : ∀ a, Fr a N env → From P c K Q k a w := by
  subst e
  exact zsl m hm h hk
end
theorem add_off (g p k : Nat) : (⟨g, p, none⟩ : Addr).add (k * 1) = (⟨g, 0, none⟩ : Addr).add (p + k) := by
  rw [add_blk, Nat.mul_one]
  unfold Addr.add
  split <;> simp_all
theorem flatMap_at {α : Type} {f : α → List Value} {size : Nat} (hf : ∀ x, (f x).length = size) : ∀ (l : List α) (i : Nat) (x : α), l[i]? = some x → ∀ (j : Nat) (v : Value), (f x)[j]? = some v → (l.flatMap f)[i * size + j]? = some v
  | [], i, x, h, _, _, _ => by simp at h
  | y :: l, 0, x, h, j, v, hv => by
    simp at h
    subst h
    rw [List.flatMap_cons, Nat.zero_mul, Nat.zero_add, List.getElem?_append_left (List.getElem?_eq_some_iff.1 hv).1]
    exact hv
  | y :: l, i + 1, x, h, j, v, hv => by
    have h' : l[i]? = some x := by simpa using h
    have ih := flatMap_at hf l i x h' j v hv
    have e : (i + 1) * size + j - (f y).length = i * size + j := by rw [hf, Nat.add_mul]; omega
    rw [List.flatMap_cons, List.getElem?_append_right (by rw [hf, Nat.add_mul]; omega), e]
    exact ih
end Go.Mor
namespace Go.Mor
open Go.RowKit
def FDat.parts (d : FDat) : List Res := [.rd d.wA (ints d.words), .rds d.rA 2 (d.refs.map refCells)]
section
variable {S : Nat → Prop} {w : World} {A : Option Addr} {ds : List FDat} {d : FDat}
end
structure FDat.WF (d : FDat) : Prop where
  name : nameQ d.nm
  len : d.words.length ≤ 16384
  rlen : d.refs.length ≤ 16384
  refs : ∀ r, r ∈ d.refs → 0 ≤ r.1 ∧ r.1 < d.words.length
abbrev lyS (mem : List Int) (n : Int) : PSt := ⟨mem, n, 0, [], 0, 0⟩
theorem lkV_get (l : List (ByteArray × Int)) (s : ByteArray) : lkV false (lkp (vK l) s) (.int .i64 0) = .int .i64 ((lkp l s).getD 0) := by
  rw [lkp_vK]
  cases lkp l s <;> rfl
theorem rows_rds {α : Type} {f : α → List Value} {w : World} {e size n c : Nat} {A : Option Addr} {l : List α} (hf : ∀ x, (f x).length = size) (h0 : 0 < size) (h : (Res.row e size A n c (l.flatMap f)).holds w) : (Res.rds A size (l.map f)).holds w := by
  have hr := row_rd h
  intro i cs hi
  rw [List.getElem?_map] at hi
  cases hx : l[i]? with
  | none => rw [hx] at hi; cases hi
  | some x =>
    rw [hx] at hi
    injection hi with hi
    subst hi
    have hne : 0 < (f x).length := by rw [hf]; exact h0
    obtain ⟨a, hA, _⟩ := hr (i * size + 0) (f x)[0] (flatMap_at hf l i x hx 0 _ (by rw [List.getElem?_eq_getElem hne]))
    refine ⟨a, hA, fun j v hv => ?_⟩
    obtain ⟨a', hA', hc⟩ := hr (i * size + j) v (flatMap_at hf l i x hx j v hv)
    rw [hA] at hA'
    injection hA' with hA'
    subst hA'
    rw [add_add]
    exact hc
theorem ints_write (m : List Int) (p : Nat) (ws : List Int) : (ints m).take p ++ ints ws ++ (ints m).drop (p + (ints ws).length) = ints (writeAt m p ws) := by
  unfold writeAt
  rw [ints_len]
  simp [ints, List.map_take, List.map_drop]
theorem cut_words {m n g : Nat} {ws : List Int} (h : m + ws.length ≤ n) : ws = [] ∨ (if n = m then (some ⟨g, 0, none⟩ : Option Addr) else (some ⟨g, 0, none⟩ : Option Addr).map (·.add (m * 1))) = some ⟨g, m, none⟩ := by
  by_cases e : n = m
  · exact .inl (List.eq_nil_of_length_eq_zero (by omega))
  · right
    rw [if_neg e, Nat.mul_one]
    show some ((⟨g, 0, none⟩ : Addr).add m) = _
    rw [add_blk]
end Go.Mor
namespace Go.Mor
open Go.RowKit
structure TMod where
  pkg : ByteArray
  fA : Option Addr
  fc : Nat
  fns : List TFn
  dA : Option Addr
  dc : Nat
  dats : List FDat
def TMod.cells (m : TMod) : List Value := [.string m.pkg, .slice m.fA m.fns.length m.fc, .slice m.dA m.dats.length m.dc]
abbrev MC (m : TMod) : List Value := [.string m.pkg, .slice m.fA m.fns.length m.fc, .slice m.dA m.dats.length m.dc]
abbrev DC (d : FDat) : List Value := [.string d.nm, .bool d.wk, .slice d.wA d.words.length d.wc, .slice d.rA d.refs.length d.rc]
def flF (ms : List TMod) : List TFn := ms.flatMap (·.fns)
def flD (ms : List TMod) : List FDat := ms.flatMap (·.dats)
def nwF (ms : List TMod) : NW := (flF ms).map fun f => (f.nm, f.wk)
def nwD (ms : List TMod) : NW := (flD ms).map fun d => (d.nm, d.wk)
section
variable {α β : Type} {g : α → List β} {ms : List α} {j k : Nat} {m : α} {x : β}
def offG (g : α → List β) (ms : List α) (j : Nat) : Nat := ((ms.take j).flatMap g).length
theorem off_succ (h : ms[j]? = some m) : offG g ms (j + 1) = offG g ms j + (g m).length := by
  unfold offG
  rw [List.take_add_one, h]
  simp
theorem off_end (h : ms.length ≤ j) : offG g ms j = (ms.flatMap g).length := by unfold offG; rw [List.take_of_length_le h]
theorem flat_get (h : ms[j]? = some m) (hx : (g m)[k]? = some x) : (ms.flatMap g)[offG g ms j + k]? = some x := by
  obtain ⟨hlt, he⟩ := List.getElem?_eq_some_iff.1 h
  have e : ms = ms.take j ++ m :: ms.drop (j + 1) := by rw [← he, ← List.drop_eq_getElem_cons hlt, List.take_append_drop]
  have hk := (List.getElem?_eq_some_iff.1 hx).1
  unfold offG
  generalize hp : (ms.take j).flatMap g = p
  rw [e, List.flatMap_append, hp, List.flatMap_cons, List.getElem?_append_right (by omega), show p.length + k - p.length = k by omega, List.getElem?_append_left hk]
  exact hx
theorem off_le (h : ms[j]? = some m) : offG g ms j + (g m).length ≤ (ms.flatMap g).length := by
  rcases Nat.eq_zero_or_pos (g m).length with h0 | h0
  · rw [h0]
    have : (ms.take j).flatMap g ++ (ms.drop j).flatMap g = ms.flatMap g := by rw [← List.flatMap_append, List.take_append_drop]
    have h2 := congrArg List.length this
    rw [List.length_append] at h2
    unfold offG
    omega
  · obtain ⟨x, hx⟩ := get_of (l := g m) (i := (g m).length - 1) (by omega)
    have := (List.getElem?_eq_some_iff.1 (flat_get h hx)).1
    omega
end
abbrev offF (ms : List TMod) (j : Nat) : Nat := offG (·.fns) ms j
abbrev offD (ms : List TMod) (j : Nat) : Nat := offG (·.dats) ms j
def stg (wk : Bool) : Int := if wk then 1 else 2
def fKey (s : ByteArray) : ByteArray := ⟨#[102]⟩ ++ s
def dKey (s : ByteArray) : ByteArray := ⟨#[100]⟩ ++ s
abbrev Ev := ByteArray × Bool
def wkUp (W : List (ByteArray × Int)) (e : Ev) : List (ByteArray × Int) := upk W e.1 (max ((lkp W e.1).getD 0) (stg e.2))
def wkM (es : List Ev) : List (ByteArray × Int) := es.foldl wkUp []
def evF (m : TMod) : List Ev := m.fns.map fun f => (fKey f.nm, f.wk)
def evD (m : TMod) : List Ev := m.dats.map fun d => (dKey d.nm, d.wk)
def evM (ms : List TMod) : List Ev := ms.flatMap fun m => evF m ++ evD m
theorem wkM_snoc (es : List Ev) (e : Ev) : wkM (es ++ [e]) = wkUp (wkM es) e := by unfold wkM; rw [List.foldl_append]; rfl
theorem ba_toList (a b : ByteArray) : (a ++ b).data.toList = a.data.toList ++ b.data.toList := by simp
theorem ba_ext {a b : ByteArray} (h : a.data.toList = b.data.toList) : a = b := by
  cases a; cases b
  simp only at h
  congr 1
  exact Array.ext' h
theorem fKey_inj {a b : ByteArray} (h : fKey a = fKey b) : a = b := by
  have h1 := congrArg (fun x : ByteArray => x.data.toList) h
  simp only [fKey, ba_toList] at h1
  exact ba_ext (by simpa using h1)
theorem dKey_inj {a b : ByteArray} (h : dKey a = dKey b) : a = b := by
  have h1 := congrArg (fun x : ByteArray => x.data.toList) h
  simp only [dKey, ba_toList] at h1
  exact ba_ext (by simpa using h1)
theorem fKey_ne {a b : ByteArray} (h : fKey a = dKey b) : False := by
  have h1 := congrArg (fun x : ByteArray => x.data.toList) h
  simp only [fKey, dKey, ba_toList] at h1
  simp at h1
theorem stg_rng (b : Bool) : 1 ≤ stg b ∧ stg b ≤ 2 := by unfold stg; split <;> omega
theorem wkM_spec (s : ByteArray) : ∀ es : List Ev, (∀ e, e ∈ es → e.1 = s → stg e.2 ≤ (lkp (wkM es) s).getD 0) ∧ ((lkp (wkM es) s).getD 0 = 0 ∨ ∃ e, e ∈ es ∧ e.1 = s ∧ (lkp (wkM es) s).getD 0 = stg e.2) := by
  intro es
  have key : ∀ n (es : List Ev), es.length = n → (∀ e, e ∈ es → e.1 = s → stg e.2 ≤ (lkp (wkM es) s).getD 0) ∧ ((lkp (wkM es) s).getD 0 = 0 ∨ ∃ e, e ∈ es ∧ e.1 = s ∧ (lkp (wkM es) s).getD 0 = stg e.2) := by
    intro n
    induction n with
    | zero => intro es h; rw [List.eq_nil_of_length_eq_zero h]; exact ⟨(fun e he => by cases he), .inl rfl⟩
    | succ n ih =>
      intro es h
      obtain ⟨r, e0, rfl⟩ : ∃ r e0, es = r ++ [e0] := ⟨es.dropLast, es.getLast (by intro h0; rw [h0] at h; cases h), (List.dropLast_concat_getLast _).symm⟩
      obtain ⟨h1, h2⟩ := ih r (by simpa using h)
      rw [wkM_snoc]
      unfold wkUp
      rw [lkp_upk]
      by_cases hs : s = e0.1
      · rw [hs, BEq.rfl]
        simp only [if_true, Option.getD_some]
        rw [hs] at h1 h2
        refine ⟨fun e he hes => ?_, .inr ?_⟩
        · rcases List.mem_append.1 he with he | he
          · exact Int.le_trans (h1 e he hes) (Int.le_max_left _ _)
          · rw [List.mem_singleton] at he; rw [he]; exact Int.le_max_right _ _
        · rcases Int.le_total ((lkp (wkM r) e0.1).getD 0) (stg e0.2) with hle | hle
          · exact ⟨e0, by simp, rfl, by omega⟩
          · rcases h2 with h2 | ⟨e, he, hes, hv⟩
            · have := (stg_rng e0.2).1; omega
            · exact ⟨e, List.mem_append_left _ he, hes, by omega⟩
      · rw [beq_eq_false_iff_ne.2 hs]
        simp only [Bool.false_eq_true, if_false]
        refine ⟨fun e he hes => ?_, h2.imp id (fun ⟨e, he, h3⟩ => ⟨e, List.mem_append_left _ he, h3⟩)⟩
        rcases List.mem_append.1 he with he | he
        · exact h1 e he hes
        · rw [List.mem_singleton] at he; rw [he] at hes; exact absurd hes.symm hs
  exact key _ es rfl
section
variable {nw : NW} {es : List Ev} {K : ByteArray → ByteArray} {i : Nat} {x : ByteArray × Bool}
theorem stg_max (hes : ∀ a wk, (K a, wk) ∈ es ↔ (a, wk) ∈ nw) (hx : nw[i]? = some x) : stg x.2 = (lkp (wkM es) (K x.1)).getD 0 ↔ ∀ y, y ∈ nw → y.1 = x.1 → y.2 = false → x.2 = false := by
  obtain ⟨h1, h2⟩ := wkM_spec (K x.1) es
  have hm : x ∈ nw := List.mem_of_getElem? hx
  have hself := h1 (K x.1, x.2) ((hes _ _).2 hm) rfl
  constructor
  · intro he y hy hyx hyw
    have h3 := h1 (K y.1, y.2) ((hes _ _).2 hy) (by rw [hyx])
    rw [← he, hyw] at h3
    cases hq : x.2 with
    | false => rfl
    | true => rw [hq] at h3; simp [stg] at h3
  · intro hall
    rcases h2 with h2 | ⟨e, he, hek, hv⟩
    · have := (stg_rng x.2).1; simp only at hself; omega
    · obtain ⟨e1, e2⟩ := e
      simp only at hek hv
      subst hek
      have h3 := (hes _ _).1 he
      rw [hv] at hself ⊢
      simp only at hself
      cases hq : e2 with
      | false => rw [hall _ h3 rfl hq]
      | true => 
        rw [hq] at hself
        have := (stg_rng x.2).1
        have h5 : stg true = 1 := rfl
        omega
theorem best_at (hx : nw[i]? = some x) : ∃ (j : Nat) (z : ByteArray × Bool), nw[j]? = some z ∧ z.1 = x.1 ∧ bestB nw j = true ∧ (j ≠ i → beatsB nw j i = true) := by
  obtain ⟨a, ha⟩ := bestM_has hx
  have hs := bestM_spec nw nw.length (Nat.le_refl _) x.1
  rw [ha] at hs
  obtain ⟨j, z, hj, hjl, hz, hzx, hb⟩ := hs
  subst hj
  refine ⟨j, z, hz, hzx, ?_, fun hne => hb i x (List.getElem?_eq_some_iff.1 hx).1 hx rfl (fun e => hne e.symm)⟩
  exact (bestM_self hz).1 (by rw [hzx]; exact ha)
theorem count_iff {α : Type} {key : α → ByteArray × Bool} {l : List α} {y : α} (hnw : nw = l.map key) (hy : l[i]? = some y) (hK : ∀ a b, K a = K b → a = b) (hes : ∀ a wk, (K a, wk) ∈ es ↔ (a, wk) ∈ nw) :
    ((∀ z, z ∈ chosenTo nw l i → (key z).1 ≠ (key y).1) ∧ stg (key y).2 = (lkp (wkM es) (K (key y).1)).getD 0) ↔ bestB nw i = true := by
  have hx : nw[i]? = some (key y) := by rw [hnw, List.getElem?_map, hy]; rfl
  rw [stg_max hes hx]
  have hmem : ∀ z j, j < i → bestB nw j = true → l[j]? = some z → z ∈ chosenTo nw l i := fun z j hj hb hz => by
    unfold chosenTo
    exact List.mem_filterMap.2 ⟨j, List.mem_filter.2 ⟨List.mem_range.2 hj, hb⟩, hz⟩
  constructor
  · rintro ⟨h1, h2⟩
    obtain ⟨j, z, hz, hzx, hb, hbt⟩ := best_at hx
    by_cases e : j = i
    · rw [← e]; exact hb
    · exfalso
      have h3 := hbt e
      rw [beats_at hz hx] at h3
      simp only [Bool.and_eq_true, Bool.or_eq_true, beq_iff_eq, Bool.not_eq_true', decide_eq_true_eq] at h3
      obtain ⟨_, h3⟩ := h3
      rcases h3 with ⟨h3, h4⟩ | ⟨h3, h4⟩
      · have := h2 z (List.mem_of_getElem? hz) hzx h3
        rw [this] at h4; cases h4
      · rw [hnw, List.getElem?_map] at hz
        obtain ⟨u, hu, rfl⟩ := Option.map_eq_some_iff.1 hz
        exact h1 u (hmem u j h4 hb hu) hzx
  · intro hb
    refine ⟨fun z hz he => ?_, fun v hv hvx hvw => ?_⟩
    · unfold chosenTo at hz
      obtain ⟨j, hj, hjz⟩ := List.mem_filterMap.1 hz
      obtain ⟨hj1, hj2⟩ := List.mem_filter.1 hj
      have hji : j < i := by simpa using hj1
      have hz' : nw[j]? = some (key z) := by rw [hnw, List.getElem?_map, hjz]; rfl
      have hl : i < nw.length := (List.getElem?_eq_some_iff.1 hx).1
      have h1 := bestB_iff.1 hb j (by omega)
      have h2 := bestB_iff.1 hj2 i hl
      rw [beats_at hz' hx, he] at h1
      rw [beats_at hx hz', he] at h2
      cases h3 : (key z).2 <;> cases h4 : (key y).2 <;> simp [h3, h4] at h1 h2 <;> omega
    · obtain ⟨k, hk⟩ := List.mem_iff_getElem?.1 hv
      have h1 := bestB_iff.1 hb k (List.getElem?_eq_some_iff.1 hk).1
      rw [beats_at hk hx, hvx, BEq.rfl, hvw] at h1
      cases hq : (key y).2 with
      | false => rfl
      | true => rw [hq] at h1; simp at h1
end
theorem ev_fns (ms : List TMod) (a : ByteArray) (wk : Bool) : (fKey a, wk) ∈ evM ms ↔ (a, wk) ∈ nwF ms := by
  unfold evM nwF flF
  simp only [List.mem_flatMap, List.mem_append, List.mem_map, evF, evD]
  constructor
  · rintro ⟨m, hm, ⟨f, hf, he⟩ | ⟨d, hd, he⟩⟩
    · have h1 := congrArg Prod.fst he
      have h2 := congrArg Prod.snd he
      exact ⟨f, ⟨m, hm, hf⟩, Prod.ext (fKey_inj h1) h2⟩
    · exact (fKey_ne (congrArg Prod.fst he).symm).elim
  · rintro ⟨f, ⟨m, hm, hf⟩, he⟩
    have h1 := congrArg Prod.fst he
    have h2 := congrArg Prod.snd he
    simp only at h1 h2
    exact ⟨m, hm, .inl ⟨f, hf, by rw [← h1, ← h2]⟩⟩
theorem ev_dats (ms : List TMod) (a : ByteArray) (wk : Bool) : (dKey a, wk) ∈ evM ms ↔ (a, wk) ∈ nwD ms := by
  unfold evM nwD flD
  simp only [List.mem_flatMap, List.mem_append, List.mem_map, evF, evD]
  constructor
  · rintro ⟨m, hm, ⟨f, hf, he⟩ | ⟨d, hd, he⟩⟩
    · exact (fKey_ne (congrArg Prod.fst he)).elim
    · have h1 := congrArg Prod.fst he
      have h2 := congrArg Prod.snd he
      exact ⟨d, ⟨m, hm, hd⟩, Prod.ext (dKey_inj h1) h2⟩
  · rintro ⟨d, ⟨m, hm, hd⟩, he⟩
    have h1 := congrArg Prod.fst he
    have h2 := congrArg Prod.snd he
    simp only at h1 h2
    exact ⟨m, hm, .inr ⟨d, hd, by rw [← h1, ← h2]⟩⟩
def csF (ms : List TMod) : List TFn := chosenTo (nwF ms) (flF ms) (flF ms).length
def csD (ms : List TMod) : List FDat := chosenTo (nwD ms) (flD ms) (flD ms).length
def cF (ms : List TMod) (i : Nat) : Nat := (chosenTo (nwF ms) (flF ms) i).length
def cD (ms : List TMod) (i : Nat) : Nat := (chosenTo (nwD ms) (flD ms) i).length
theorem chosen_pre {α : Type} (nw : NW) (l : List α) {i n : Nat} (h : i ≤ n) : chosenTo nw l i <+: chosenTo nw l n := by
  induction n with
  | zero => rw [show i = 0 by omega]; exact List.prefix_refl _
  | succ n ih =>
    by_cases e : i = n + 1
    · rw [e]; exact List.prefix_refl _
    · refine List.IsPrefix.trans (ih (by omega)) ?_
      unfold chosenTo
      rw [List.range_succ, List.filter_append, List.filterMap_append]
      exact List.prefix_append _ _
theorem take_pre {α : Type} {l m : List α} (h : l <+: m) : m.take l.length = l := by
  obtain ⟨t, rfl⟩ := h
  simp
section
variable {ms : List TMod} {i : Nat} {f : TFn} {d : FDat}
theorem csF_take (h : i ≤ (flF ms).length) : (csF ms).take (cF ms i) = chosenTo (nwF ms) (flF ms) i := take_pre (chosen_pre _ _ h)
theorem csD_take (h : i ≤ (flD ms).length) : (csD ms).take (cD ms i) = chosenTo (nwD ms) (flD ms) i := take_pre (chosen_pre _ _ h)
theorem cF_yes (hf : (flF ms)[i]? = some f) (hb : bestB (nwF ms) i = true) : cF ms (i + 1) = cF ms i + 1 ∧ (csF ms)[cF ms i]? = some f := by
  have hi := (List.getElem?_eq_some_iff.1 hf).1
  have h1 := chosenTo_yes hf hb
  have h2 : cF ms (i + 1) = cF ms i + 1 := by unfold cF; rw [h1]; simp
  refine ⟨h2, ?_⟩
  have h3 := csF_take (ms := ms) (i := i + 1) (by omega)
  rw [h1, h2] at h3
  have h4 : ((csF ms).take (cF ms i + 1))[cF ms i]? = some f := by rw [h3]; unfold cF; simp
  rw [List.getElem?_take_of_lt (by omega)] at h4
  exact h4
theorem cF_no (hb : bestB (nwF ms) i = false) : cF ms (i + 1) = cF ms i := by unfold cF; rw [chosenTo_no hb]
theorem cD_yes (hd : (flD ms)[i]? = some d) (hb : bestB (nwD ms) i = true) : cD ms (i + 1) = cD ms i + 1 ∧ (csD ms)[cD ms i]? = some d := by
  have hi := (List.getElem?_eq_some_iff.1 hd).1
  have h1 := chosenTo_yes hd hb
  have h2 : cD ms (i + 1) = cD ms i + 1 := by unfold cD; rw [h1]; simp
  refine ⟨h2, ?_⟩
  have h3 := csD_take (ms := ms) (i := i + 1) (by omega)
  rw [h1, h2] at h3
  have h4 : ((csD ms).take (cD ms i + 1))[cD ms i]? = some d := by rw [h3]; unfold cD; simp
  rw [List.getElem?_take_of_lt (by omega)] at h4
  exact h4
theorem cD_no (hb : bestB (nwD ms) i = false) : cD ms (i + 1) = cD ms i := by unfold cD; rw [chosenTo_no hb]
theorem cF_le (h : i ≤ (flF ms).length) : cF ms i ≤ (csF ms).length := (chosen_pre _ _ h).length_le
theorem cD_le (h : i ≤ (flD ms).length) : cD ms i ≤ (csD ms).length := (chosen_pre _ _ h).length_le
theorem csF_mem (h : f ∈ csF ms) : f ∈ flF ms := chosenTo_mem h
theorem csD_mem (h : d ∈ csD ms) : d ∈ flD ms := chosenTo_mem h
theorem csF_len : (csF ms).length ≤ (flF ms).length := chosenTo_len
theorem csD_len : (csD ms).length ≤ (flD ms).length := chosenTo_len
theorem csD_nodup : ((csD ms).map (·.nm)).Nodup := chosen_nodup (key := fun f : FDat => (f.nm, f.wk)) _ (Nat.le_refl _)
end
def nmsTo (cs : List TFn) (j : Nat) : List (ByteArray × Int) := (cs.take j).zipIdx.map (fun p => (p.1.nm, ((p.2 + 1 : Nat) : Int)))
section
variable {cs : List TFn} {j : Nat} {f : TFn}
theorem nmsTo_zero : nmsTo cs 0 = [] := by simp [nmsTo]
theorem nmsTo_succ (h : cs[j]? = some f) : nmsTo cs (j + 1) = nmsTo cs j ++ [(f.nm, ((j + 1 : Nat) : Int))] := by
  unfold nmsTo
  rw [zipIdx_take h, List.map_append]
  rfl
theorem nmsTo_keys : ∀ (j : Nat), j ≤ cs.length → (nmsTo cs j).map (·.1) = (cs.take j).map (·.nm)
  | 0, _ => by simp [nmsTo_zero]
  | j + 1, hj => by
    obtain ⟨d, hd⟩ := get_of (l := cs) (i := j) (by omega)
    rw [nmsTo_succ hd, List.map_append, nmsTo_keys j (by omega), List.take_add_one, hd]
    simp
theorem nmsTo_up (hn : f.nm ∉ (nmsTo cs j).map (·.1)) (h : cs[j]? = some f) : upk (vK (nmsTo cs j)) f.nm (.int .i64 ((j + 1 : Nat) : Int)) = vK (nmsTo cs (j + 1)) := by
  rw [upk_new _ (by simpa [vK, List.map_map, Function.comp_def] using hn), nmsTo_succ h]
  simp [vK]
theorem vK_up (l : List (ByteArray × Int)) (s : ByteArray) (n : Int) : upk (vK l) s (.int .i64 n) = vK (upk l s n) := by
  induction l with
  | nil => rfl
  | cons p r ih =>
    obtain ⟨k, u⟩ := p
    show (match s == k with | true => (s, Value.int .i64 n) :: vK r | false => (k, .int .i64 u) :: upk (vK r) s (.int .i64 n)) = vK (match s == k with | true => (s, n) :: r | false => (k, u) :: upk r s n)
    cases s == k
    · rw [ih]; rfl
    · rfl
end
theorem lkp_some_mem {l : List (ByteArray × Int)} {s : ByteArray} (h : s ∈ l.map (·.1)) : ∃ v, lkp l s = some v := by
  induction l with
  | nil => cases h
  | cons p r ih =>
    obtain ⟨k, u⟩ := p
    unfold lkp
    cases hq : s == k with
    | true => exact ⟨u, rfl⟩
    | false =>
      rcases List.mem_cons.1 h with rfl | h
      · rw [BEq.rfl] at hq; cases hq
      · exact ih h
section
variable {ms : List TMod} {i : Nat} {f : TFn} {d : FDat}
theorem fn_count (hf : (flF ms)[i]? = some f) : (lkp (nmsTo (csF ms) (cF ms i)) f.nm = none ∧ stg f.wk = (lkp (wkM (evM ms)) (fKey f.nm)).getD 0) ↔ bestB (nwF ms) i = true := by
  have hi := (List.getElem?_eq_some_iff.1 hf).1
  rw [← count_iff (K := fKey) (es := evM ms) (nw := nwF ms) (key := fun f : TFn => (f.nm, f.wk)) rfl hf (fun _ _ => fKey_inj) (ev_fns ms)]
  have hk := nmsTo_keys (cs := csF ms) (cF ms i) (cF_le (by omega))
  rw [csF_take (by omega)] at hk
  refine and_congr ⟨fun h z hz he => ?_, fun h => lkp_none fun hm => ?_⟩ Iff.rfl
  · obtain ⟨v, hv⟩ := lkp_some_mem (l := nmsTo (csF ms) (cF ms i)) (s := f.nm) (by rw [hk]; exact List.mem_map.2 ⟨z, hz, he⟩)
    rw [h] at hv; cases hv
  · rw [hk] at hm
    obtain ⟨z, hz, he⟩ := List.mem_map.1 hm
    exact h z hz he
theorem dat_count (hd : (flD ms)[i]? = some d) : (lkp (dataTo (csD ms) (cD ms i)) d.nm = none ∧ stg d.wk = (lkp (wkM (evM ms)) (dKey d.nm)).getD 0) ↔ bestB (nwD ms) i = true := by
  have hi := (List.getElem?_eq_some_iff.1 hd).1
  rw [← count_iff (K := dKey) (es := evM ms) (nw := nwD ms) (key := fun f : FDat => (f.nm, f.wk)) rfl hd (fun _ _ => dKey_inj) (ev_dats ms)]
  have hk := dataTo_keys (ds := csD ms) (cD ms i) (cD_le (by omega))
  rw [csD_take (by omega)] at hk
  refine and_congr ⟨fun h z hz he => ?_, fun h => lkp_none fun hm => ?_⟩ Iff.rfl
  · obtain ⟨v, hv⟩ := lkp_some_mem (l := dataTo (csD ms) (cD ms i)) (s := d.nm) (by rw [hk]; exact List.mem_map.2 ⟨z, hz, he⟩)
    rw [h] at hv; cases hv
  · rw [hk] at hm
    obtain ⟨z, hz, he⟩ := List.mem_map.1 hm
    exact h z hz he
theorem nms_new {cs : List TFn} {c : Nat} {nm : ByteArray} (h : lkp (nmsTo cs c) nm = none) : nm ∉ (nmsTo cs c).map (·.1) := fun hm => by
  obtain ⟨v, hv⟩ := lkp_some_mem hm
  rw [h] at hv; cases hv
end
end Go.Mor
namespace Go.Mor
open Go.RowKit
def TMod.parts (m : TMod) : List Res := .rds m.fA 5 (m.fns.map TFn.cells) :: .rds m.dA 4 (m.dats.map FDat.cells) :: (m.fns.flatMap TFn.parts ++ m.dats.flatMap FDat.parts)
def Res.mods (A : Option Addr) (ms : List TMod) : Res := .all (.rds A 3 (ms.map TMod.cells) :: ms.flatMap TMod.parts)
section
variable {S : Nat → Prop} {w : World} {A : Option Addr} {ms : List TMod} {m : TMod} {f : TFn} {d : FDat}
theorem RO.mcells (h : RO S w (.mods A ms)) : RO S w (.rds A 3 (ms.map TMod.cells)) := h.sub (List.mem_cons_self ..)
theorem RO.mpart (h : RO S w (.mods A ms)) (hm : m ∈ ms) {r : Res} (hr : r ∈ m.parts) : RO S w r := h.sub (List.mem_cons_of_mem _ (List.mem_flatMap.2 ⟨m, hm, hr⟩))
theorem RO.mfns (h : RO S w (.mods A ms)) (hm : m ∈ ms) : RO S w (.rds m.fA 5 (m.fns.map TFn.cells)) := h.mpart hm (List.mem_cons_self ..)
theorem RO.mdats (h : RO S w (.mods A ms)) (hm : m ∈ ms) : RO S w (.rds m.dA 4 (m.dats.map FDat.cells)) := h.mpart hm (List.mem_cons_of_mem _ (List.mem_cons_self ..))
theorem RO.mtree (h : RO S w (.mods A ms)) (hf : f ∈ flF ms) {r : Res} (hr : r ∈ f.parts) : RO S w r := by
  obtain ⟨m, hm, hf⟩ := List.mem_flatMap.1 hf
  exact h.mpart hm (List.mem_cons_of_mem _ (List.mem_cons_of_mem _ (List.mem_append_left _ (List.mem_flatMap.2 ⟨f, hf, hr⟩))))
theorem RO.mwords (h : RO S w (.mods A ms)) (hd : d ∈ flD ms) : RO S w (.rd d.wA (ints d.words)) := by
  obtain ⟨m, hm, hd⟩ := List.mem_flatMap.1 hd
  exact h.mpart hm (List.mem_cons_of_mem _ (List.mem_cons_of_mem _ (List.mem_append_right _ (List.mem_flatMap.2 ⟨d, hd, by simp [FDat.parts]⟩))))
theorem RO.mrefs (h : RO S w (.mods A ms)) (hd : d ∈ flD ms) : RO S w (.rds d.rA 2 (d.refs.map refCells)) := by
  obtain ⟨m, hm, hd⟩ := List.mem_flatMap.1 hd
  exact h.mpart hm (List.mem_cons_of_mem _ (List.mem_cons_of_mem _ (List.mem_append_right _ (List.mem_flatMap.2 ⟨d, hd, by simp [FDat.parts]⟩))))
end
theorem max_if (a b : Int) : max a b = if a < b then b else a := by
  split <;> omega
section
variable {ms : List TMod} {m : TMod} {j k : Nat} {f : TFn} {d : FDat} {es es' : List Ev}
theorem evM_succ (h : ms[j]? = some m) : evM (ms.take (j + 1)) = evM (ms.take j) ++ (evF m ++ evD m) := by
  unfold evM
  rw [List.take_add_one, h]
  simp
theorem evF_take (h : m.fns[k]? = some f) : (evF m).take (k + 1) = (evF m).take k ++ [(fKey f.nm, f.wk)] := by
  unfold evF
  rw [List.take_add_one, List.getElem?_map, h]
  rfl
theorem evD_take (h : m.dats[k]? = some d) : (evD m).take (k + 1) = (evD m).take k ++ [(dKey d.nm, d.wk)] := by
  unfold evD
  rw [List.take_add_one, List.getElem?_map, h]
  rfl
theorem evF_all (h : m.fns.length ≤ k) : (evF m).take k = evF m := List.take_of_length_le (by unfold evF; simpa using h)
theorem evD_all (h : m.dats.length ≤ k) : (evD m).take k = evD m := List.take_of_length_le (by unfold evD; simpa using h)
theorem wk_put {K : ByteArray} {b : Bool} (h : es' = es ++ [(K, b)]) : upk (vK (wkM es)) K (.int .i64 (max ((lkp (wkM es) K).getD 0) (stg b))) = vK (wkM es') := by
  rw [vK_up, h, wkM_snoc]
  rfl
end
abbrev tlyS (C : TC) : Nat → Prop := (Res.pk [.blk C.r 66 [.slice none 0 0, .map (some C.mB), .map (some C.dB), .slice (some ⟨C.mG, 0, none⟩) C.E.memN C.E.memN, .int .i64 0, .slice (inAt C.iA C.ic 0).1 (C.E.inp.length - 0) (inAt C.iA C.ic 0).2, .slice none 0 0, .int .i64 C.E.fuel, .int .i64 0, .int .i64 0],
  .row 2 1 (some ⟨C.mG, 0, none⟩) C.E.memN C.E.memN (ints (List.replicate C.E.memN 0)), .row 5 1 none 0 0 [], .map C.mB (inK .string (vK [])), .map C.dB (inK .string (vK []))]).fp
def lyT (names data : List (ByteArray × Int)) (memN : Nat) (cs : List FDat) : List Int := if nextTo cs cs.length ≤ memN then layTo names data cs memN cs.length else List.replicate memN 0
def fnT (cs : List TFn) (j : Nat) : List Value := zeroTF ++ (cs.take j).flatMap TFn.cells
theorem row_fns {cs : List TFn} {j : Nat} {f : TFn} (h : cs[j]? = some f) : fnT cs j ++ f.cells = fnT cs (j + 1) := by
  unfold fnT
  rw [List.take_add_one, h, List.flatMap_append, List.append_assoc]
  simp
theorem row_dats {cs : List FDat} {j : Nat} {d : FDat} (h : cs[j]? = some d) : (cs.take j).flatMap FDat.cells ++ d.cells = (cs.take (j + 1)).flatMap FDat.cells := by
  rw [List.take_add_one, h, List.flatMap_append]
  simp
theorem size_key {s : ByteArray} {K : ByteArray} (h : s.size ≤ 60) (hK : K.size ≤ 1) : K.size + s.size ≤ 9223372036854775807 := by omega
end Go.Mor
namespace Go.Mor
open Go.RowKit
mutual
def exN : MEx → Nat
  | ⟨_, _, _, _, _, kids⟩ => 1 + exsN kids
def exsN : List MEx → Nat
  | [] => 0
  | e :: r => exN e + exsN r
end
mutual
def stN : MSt → Nat
  | ⟨_, _, _, _, exprs, _, _, body, _, _, els⟩ => 1 + exsN exprs + stsN body + stsN els
def stsN : List MSt → Nat
  | [] => 0
  | x :: r => stN x + stsN r
end
theorem exN_eq (e : MEx) : exN e = 1 + exsN e.kids := by cases e; rfl
theorem stN_eq (x : MSt) : stN x = 1 + exsN x.exprs + stsN x.body + stsN x.els := by cases x; rfl
theorem exsN_append (l m : List MEx) : exsN (l ++ m) = exsN l + exsN m := by
  induction l with
  | nil => simp [exsN]
  | cons e r ih => show exN e + exsN (r ++ m) = exN e + exsN r + exsN m; omega
theorem stsN_append (l m : List MSt) : stsN (l ++ m) = stsN l + stsN m := by
  induction l with
  | nil => simp [stsN]
  | cons e r ih => show stN e + stsN (r ++ m) = stN e + stsN r + stsN m; omega
theorem exsN_take {l : List MEx} {j : Nat} {k : MEx} (h : l[j]? = some k) : exsN (l.take (j + 1)) = exsN (l.take j) + exN k := by
  obtain ⟨hlt, he⟩ := List.getElem?_eq_some_iff.1 h
  rw [List.take_succ_eq_append_getElem hlt, he, exsN_append]
  rfl
theorem stsN_take {l : List MSt} {j : Nat} {k : MSt} (h : l[j]? = some k) : stsN (l.take (j + 1)) = stsN (l.take j) + stN k := by
  obtain ⟨hlt, he⟩ := List.getElem?_eq_some_iff.1 h
  rw [List.take_succ_eq_append_getElem hlt, he, stsN_append]
  rfl
theorem exsN_len (l : List MEx) : l.length ≤ exsN l := by
  induction l with
  | nil => exact Nat.le_refl _
  | cons e r ih => show r.length + 1 ≤ exN e + exsN r; rw [exN_eq]; omega
theorem exsN_mem {l : List MEx} {e : MEx} (h : e ∈ l) : exN e ≤ exsN l := by
  induction l with
  | nil => cases h
  | cons x r ih =>
    show _ ≤ exN x + exsN r
    rcases List.mem_cons.1 h with rfl | h
    · omega
    · have := ih h; omega
theorem stsN_mem {l : List MSt} {e : MSt} (h : e ∈ l) : stN e ≤ stsN l := by
  induction l with
  | nil => cases h
  | cons x r ih =>
    show _ ≤ stN x + stsN r
    rcases List.mem_cons.1 h with rfl | h
    · omega
    · have := ih h; omega
theorem exsN_split (l : List MEx) (j : Nat) : exsN l = exsN (l.take j) + exsN (l.drop j) := by rw [← exsN_append, List.take_append_drop]
theorem stsN_split (l : List MSt) (j : Nat) : stsN l = stsN (l.take j) + stsN (l.drop j) := by rw [← stsN_append, List.take_append_drop]
def Cnt (most n k n' : Int) : Prop := n ≤ n' ∧ n' ≤ n + k ∧ (n' = n + k ∨ most < n')
section
variable {most n k k' n' n'' : Int}
theorem Cnt.zero : Cnt most n 0 n := ⟨Int.le_refl _, by omega, .inl (by omega)⟩
theorem Cnt.one : Cnt most n 1 (n + 1) := ⟨by omega, Int.le_refl _, .inl rfl⟩
theorem Cnt.trans (h : Cnt most n k n') (h2 : Cnt most n' k' n'') : Cnt most n (k + k') n'' := by
  unfold Cnt at *
  omega
theorem Cnt.stop (hk : 0 ≤ k') (h : Cnt most n k n') (hn : most < n') : Cnt most n (k + k') n' := by
  unfold Cnt at *
  omega
theorem Cnt.cast (h : Cnt most n k n') (e : k = k') : Cnt most n k' n' := e ▸ h
theorem Cnt.gt (h : Cnt most n k n') : most < n' ↔ most < n + k := by
  unfold Cnt at h
  omega
theorem Cnt.eq (h : Cnt most n k n') (hn : n + k ≤ most) : n' = n + k := by
  unfold Cnt at h
  omega
end
end Go.Mor
namespace Go.Mor
open Go.RowKit
def esQ (lo op n : Int) (sz k : Nat) : Prop :=
  (op = 1 ∧ k = 0 ∧ sz = 0) ∨
  (op = 2 ∧ k = 0 ∧ sz = 0 ∧ 0 ≤ n ∧ n < lo) ∨
  (op = 3 ∧ k = 2 ∧ sz = 0 ∧ 1 ≤ n ∧ n ≤ 16) ∨
  (op = 4 ∧ k = 1 ∧ sz = 0 ∧ 1 ≤ n ∧ n ≤ 3) ∨
  (op = 5 ∧ k = 1 ∧ sz = 0 ∧ 0 ≤ n ∧ n ≤ 2147483647) ∨
  (op = 6 ∧ k ≤ 16 ∧ 1 ≤ sz ∧ sz ≤ 60 ∧ n = 0) ∨
  (op = 7 ∧ 1 ≤ k ∧ k ≤ 17 ∧ sz = 0 ∧ n = 0) ∨
  (op = 8 ∧ k = 0 ∧ 1 ≤ sz ∧ sz ≤ 60 ∧ n = 0) ∨
  (op = 9 ∧ k = 0 ∧ 1 ≤ sz ∧ sz ≤ 60 ∧ n = 0) ∨
  (op = 10 ∧ k = 1 ∧ sz = 0 ∧ n = 0) ∨
  (op = 11 ∧ k = 0 ∧ sz = 0 ∧ n = 0) ∨
  (op = 12 ∧ k = 3 ∧ sz = 0 ∧ n = 0) ∨
  (op = 13 ∧ k = 2 ∧ sz = 0 ∧ 1 ≤ n ∧ n ≤ 999)
instance (lo op n : Int) (sz k : Nat) : Decidable (esQ lo op n sz k) := by unfold esQ; infer_instance
theorem esQ_1 {lo op n : Int} {sz k : Nat} (h : op = 1) : esQ lo op n sz k ↔ (k = 0 ∧ sz = 0) := by
  unfold esQ
  rw [h]
  simp
theorem esQ_2 {lo op n : Int} {sz k : Nat} (h : op = 2) : esQ lo op n sz k ↔ (k = 0 ∧ sz = 0 ∧ 0 ≤ n ∧ n < lo) := by
  unfold esQ
  rw [h]
  simp
theorem esQ_3 {lo op n : Int} {sz k : Nat} (h : op = 3) : esQ lo op n sz k ↔ (k = 2 ∧ sz = 0 ∧ 1 ≤ n ∧ n ≤ 16) := by
  unfold esQ
  rw [h]
  simp
theorem esQ_4 {lo op n : Int} {sz k : Nat} (h : op = 4) : esQ lo op n sz k ↔ (k = 1 ∧ sz = 0 ∧ 1 ≤ n ∧ n ≤ 3) := by
  unfold esQ
  rw [h]
  simp
theorem esQ_5 {lo op n : Int} {sz k : Nat} (h : op = 5) : esQ lo op n sz k ↔ (k = 1 ∧ sz = 0 ∧ 0 ≤ n ∧ n ≤ 2147483647) := by
  unfold esQ
  rw [h]
  simp
theorem esQ_6 {lo op n : Int} {sz k : Nat} (h : op = 6) : esQ lo op n sz k ↔ (k ≤ 16 ∧ 1 ≤ sz ∧ sz ≤ 60 ∧ n = 0) := by
  unfold esQ
  rw [h]
  simp
theorem esQ_7 {lo op n : Int} {sz k : Nat} (h : op = 7) : esQ lo op n sz k ↔ (1 ≤ k ∧ k ≤ 17 ∧ sz = 0 ∧ n = 0) := by
  unfold esQ
  rw [h]
  simp
theorem esQ_8 {lo op n : Int} {sz k : Nat} (h : op = 8) : esQ lo op n sz k ↔ (k = 0 ∧ 1 ≤ sz ∧ sz ≤ 60 ∧ n = 0) := by
  unfold esQ
  rw [h]
  simp
theorem esQ_9 {lo op n : Int} {sz k : Nat} (h : op = 9) : esQ lo op n sz k ↔ (k = 0 ∧ 1 ≤ sz ∧ sz ≤ 60 ∧ n = 0) := by
  unfold esQ
  rw [h]
  simp
theorem esQ_10 {lo op n : Int} {sz k : Nat} (h : op = 10) : esQ lo op n sz k ↔ (k = 1 ∧ sz = 0 ∧ n = 0) := by
  unfold esQ
  rw [h]
  simp
theorem esQ_11 {lo op n : Int} {sz k : Nat} (h : op = 11) : esQ lo op n sz k ↔ (k = 0 ∧ sz = 0 ∧ n = 0) := by
  unfold esQ
  rw [h]
  simp
theorem esQ_12 {lo op n : Int} {sz k : Nat} (h : op = 12) : esQ lo op n sz k ↔ (k = 3 ∧ sz = 0 ∧ n = 0) := by
  unfold esQ
  rw [h]
  simp
theorem esQ_13 {lo op n : Int} {sz k : Nat} (h : op = 13) : esQ lo op n sz k ↔ (k = 2 ∧ sz = 0 ∧ 1 ≤ n ∧ n ≤ 999) := by
  unfold esQ
  rw [h]
  simp
theorem esQ_rng {lo op n : Int} {sz k : Nat} (h : esQ lo op n sz k) : 1 ≤ op ∧ op ≤ 13 := by
  unfold esQ at h
  rcases h with h | h | h | h | h | h | h | h | h | h | h | h | h <;> omega
def sfQ (lo lp op n : Int) (ke kb kl : Nat) : Prop :=
  (op = 1 ∧ ke = 1 ∧ kb = 0 ∧ kl = 0 ∧ 0 ≤ n ∧ n < lo) ∨
  (op = 2 ∧ ke = 2 ∧ kb = 0 ∧ kl = 0 ∧ 0 ≤ n ∧ n ≤ 2147483647) ∨
  (op = 3 ∧ ke = 1 ∧ kb = 0 ∧ kl = 0 ∧ n = 0) ∨
  (op = 4 ∧ ke = 1 ∧ kb = 0 ∧ kl = 0 ∧ n = 0) ∨
  (op = 5 ∧ ke = 1 ∧ n = 0) ∨
  (op = 6 ∧ ke = 0 ∧ kl = 0 ∧ n = 0) ∨
  (op = 7 ∧ ke = 0 ∧ kb = 0 ∧ kl = 0 ∧ 0 ≤ n ∧ n < lp) ∨
  (op = 8 ∧ ke = 0 ∧ kb = 0 ∧ kl = 0 ∧ 0 ≤ n ∧ n < lp) ∨
  (op = 9 ∧ (ke = 0 ∨ ke = 1) ∧ kb = 0 ∧ kl = 0 ∧ n = 0) ∨
  (op = 10 ∧ ke = 0 ∧ kb = 0 ∧ kl = 0 ∧ 1 ≤ n ∧ n ≤ 999)
instance (lo lp op n : Int) (ke kb kl : Nat) : Decidable (sfQ lo lp op n ke kb kl) := by unfold sfQ; infer_instance
theorem sfQ_1 {lo lp op n : Int} {ke kb kl : Nat} (h : op = 1) : sfQ lo lp op n ke kb kl ↔ (ke = 1 ∧ kb = 0 ∧ kl = 0 ∧ 0 ≤ n ∧ n < lo) := by
  unfold sfQ
  rw [h]
  simp
theorem sfQ_2 {lo lp op n : Int} {ke kb kl : Nat} (h : op = 2) : sfQ lo lp op n ke kb kl ↔ (ke = 2 ∧ kb = 0 ∧ kl = 0 ∧ 0 ≤ n ∧ n ≤ 2147483647) := by
  unfold sfQ
  rw [h]
  simp
theorem sfQ_3 {lo lp op n : Int} {ke kb kl : Nat} (h : op = 3) : sfQ lo lp op n ke kb kl ↔ (ke = 1 ∧ kb = 0 ∧ kl = 0 ∧ n = 0) := by
  unfold sfQ
  rw [h]
  simp
theorem sfQ_4 {lo lp op n : Int} {ke kb kl : Nat} (h : op = 4) : sfQ lo lp op n ke kb kl ↔ (ke = 1 ∧ kb = 0 ∧ kl = 0 ∧ n = 0) := by
  unfold sfQ
  rw [h]
  simp
theorem sfQ_5 {lo lp op n : Int} {ke kb kl : Nat} (h : op = 5) : sfQ lo lp op n ke kb kl ↔ (ke = 1 ∧ n = 0) := by
  unfold sfQ
  rw [h]
  simp
theorem sfQ_6 {lo lp op n : Int} {ke kb kl : Nat} (h : op = 6) : sfQ lo lp op n ke kb kl ↔ (ke = 0 ∧ kl = 0 ∧ n = 0) := by
  unfold sfQ
  rw [h]
  simp
theorem sfQ_7 {lo lp op n : Int} {ke kb kl : Nat} (h : op = 7) : sfQ lo lp op n ke kb kl ↔ (ke = 0 ∧ kb = 0 ∧ kl = 0 ∧ 0 ≤ n ∧ n < lp) := by
  unfold sfQ
  rw [h]
  simp
theorem sfQ_8 {lo lp op n : Int} {ke kb kl : Nat} (h : op = 8) : sfQ lo lp op n ke kb kl ↔ (ke = 0 ∧ kb = 0 ∧ kl = 0 ∧ 0 ≤ n ∧ n < lp) := by
  unfold sfQ
  rw [h]
  simp
theorem sfQ_9 {lo lp op n : Int} {ke kb kl : Nat} (h : op = 9) : sfQ lo lp op n ke kb kl ↔ ((ke = 0 ∨ ke = 1) ∧ kb = 0 ∧ kl = 0 ∧ n = 0) := by
  unfold sfQ
  rw [h]
  simp
theorem sfQ_10 {lo lp op n : Int} {ke kb kl : Nat} (h : op = 10) : sfQ lo lp op n ke kb kl ↔ (ke = 0 ∧ kb = 0 ∧ kl = 0 ∧ 1 ≤ n ∧ n ≤ 999) := by
  unfold sfQ
  rw [h]
  simp
theorem sfQ_rng {lo lp op n : Int} {ke kb kl : Nat} (h : sfQ lo lp op n ke kb kl) : 1 ≤ op ∧ op ≤ 10 := by
  unfold sfQ at h
  rcases h with h | h | h | h | h | h | h | h | h | h <;> omega
theorem bin_ok (n : Int) : (binS n 1 1).2 = 0 ↔ 1 ≤ n ∧ n ≤ 16 := by
  constructor
  · intro h
    refine Classical.byContradiction fun hn => ?_
    rw [bin_out hn] at h
    cases h
  · rintro ⟨h1, h2⟩
    have : n = 1 ∨ n = 2 ∨ n = 3 ∨ n = 4 ∨ n = 5 ∨ n = 6 ∨ n = 7 ∨ n = 8 ∨ n = 9 ∨ n = 10 ∨ n = 11 ∨ n = 12 ∨ n = 13 ∨ n = 14 ∨ n = 15 ∨ n = 16 := by omega
    rcases this with rfl | rfl | rfl | rfl | rfl | rfl | rfl | rfl | rfl | rfl | rfl | rfl | rfl | rfl | rfl | rfl <;> rfl
theorem un_ok (n : Int) : (unS n 1).2 = 0 ↔ 1 ≤ n ∧ n ≤ 3 := by
  constructor
  · intro h
    refine Classical.byContradiction fun hn => ?_
    rw [un_no (by omega) (by omega) (by omega)] at h
    cases h
  · rintro ⟨h1, h2⟩
    have : n = 1 ∨ n = 2 ∨ n = 3 := by omega
    rcases this with rfl | rfl | rfl <;> rfl
mutual
def exI : MEx → Prop
  | ⟨op, n, nm, _, _, kids⟩ => (In64 op ∧ In64 n ∧ LenOk nm.size ∧ LenOk kids.length) ∧ exsI kids
def exsI : List MEx → Prop
  | [] => True
  | e :: r => exI e ∧ exsI r
end
mutual
def stI : MSt → Prop
  | ⟨op, n, _, _, exprs, _, _, body, _, _, els⟩ => (In64 op ∧ In64 n ∧ LenOk exprs.length ∧ LenOk body.length ∧ LenOk els.length) ∧ exsI exprs ∧ stsI body ∧ stsI els
def stsI : List MSt → Prop
  | [] => True
  | x :: r => stI x ∧ stsI r
end
structure ExI0 (e : MEx) : Prop where
  op : In64 e.op
  n : In64 e.n
  nm : LenOk e.nm.size
  kids : LenOk e.kids.length
structure StI0 (x : MSt) : Prop where
  op : In64 x.op
  n : In64 x.n
  exprs : LenOk x.exprs.length
  body : LenOk x.body.length
  els : LenOk x.els.length
theorem exsI_mem {l : List MEx} (h : exsI l) {e : MEx} (he : e ∈ l) : exI e := by
  induction l with
  | nil => cases he
  | cons x r ih =>
    rcases List.mem_cons.1 he with rfl | he
    · exact h.1
    · exact ih h.2 he
theorem stsI_mem {l : List MSt} (h : stsI l) {e : MSt} (he : e ∈ l) : stI e := by
  induction l with
  | nil => cases he
  | cons x r ih =>
    rcases List.mem_cons.1 he with rfl | he
    · exact h.1
    · exact ih h.2 he
theorem exI.own {e : MEx} (h : exI e) : ExI0 e := by cases e; exact ⟨h.1.1, h.1.2.1, h.1.2.2.1, h.1.2.2.2⟩
theorem exI.kids {e : MEx} (h : exI e) : exsI e.kids := by cases e; exact h.2
theorem stI.own {x : MSt} (h : stI x) : StI0 x := by cases x; exact ⟨h.1.1, h.1.2.1, h.1.2.2.1, h.1.2.2.2.1, h.1.2.2.2.2⟩
theorem stI.exprs {x : MSt} (h : stI x) : exsI x.exprs := by cases x; exact h.2.1
theorem stI.body {x : MSt} (h : stI x) : stsI x.body := by cases x; exact h.2.2.1
theorem stI.els {x : MSt} (h : stI x) : stsI x.els := by cases x; exact h.2.2.2
mutual
def exV (lo : Int) : Int → MEx → Bool
  | d, ⟨op, n, nm, _, _, kids⟩ => decide (d ≤ 100 ∧ esQ lo op n nm.size kids.length) && exsV lo (d + 1) kids
def exsV (lo : Int) : Int → List MEx → Bool
  | _, [] => true
  | d, e :: r => exV lo d e && exsV lo d r
end
abbrev inner (op lp : Int) : Int := if op = 6 then lp + 1 else lp
mutual
def stV (lo : Int) : Int → Int → MSt → Bool
  | lp, d, ⟨op, n, _, _, exprs, _, _, body, _, _, els⟩ => decide (d ≤ 100 ∧ sfQ lo lp op n exprs.length body.length els.length) && (exsV lo (d + 1) exprs && (stsV lo (inner op lp) (d + 1) body && stsV lo (inner op lp) (d + 1) els))
def stsV (lo : Int) : Int → Int → List MSt → Bool
  | _, _, [] => true
  | lp, d, x :: r => stV lo lp d x && stsV lo lp d r
end
section
variable {lo lp d : Int} {e : MEx} {x : MSt}
theorem exV_eq : exV lo d e = (decide (d ≤ 100 ∧ esQ lo e.op e.n e.nm.size e.kids.length) && exsV lo (d + 1) e.kids) := by cases e; rw [exV]
theorem stV_eq : stV lo lp d x = (decide (d ≤ 100 ∧ sfQ lo lp x.op x.n x.exprs.length x.body.length x.els.length) && (exsV lo (d + 1) x.exprs && (stsV lo (inner x.op lp) (d + 1) x.body && stsV lo (inner x.op lp) (d + 1) x.els))) := by cases x; rw [stV]
theorem exsV_nil : exsV lo d [] = true := by rw [exsV]
theorem stsV_nil : stsV lo lp d [] = true := by rw [stsV]
theorem exsV_at {l : List MEx} {j : Nat} {k : MEx} (h : l[j]? = some k) : exsV lo d (l.drop j) = (exV lo d k && exsV lo d (l.drop (j + 1))) := by
  obtain ⟨hlt, he⟩ := List.getElem?_eq_some_iff.1 h
  rw [List.drop_eq_getElem_cons hlt, he, exsV]
theorem stsV_at {l : List MSt} {j : Nat} {k : MSt} (h : l[j]? = some k) : stsV lo lp d (l.drop j) = (stV lo lp d k && stsV lo lp d (l.drop (j + 1))) := by
  obtain ⟨hlt, he⟩ := List.getElem?_eq_some_iff.1 h
  rw [List.drop_eq_getElem_cons hlt, he, stsV]
theorem exsV_mem {l : List MEx} (h : exsV lo d l = true) : ∀ k, k ∈ l → exV lo d k = true := by
  induction l with
  | nil => intro k hk; cases hk
  | cons x r ih =>
    rw [exsV, Bool.and_eq_true] at h
    intro k hk
    rcases List.mem_cons.1 hk with rfl | hk
    · exact h.1
    · exact ih h.2 k hk
theorem stsV_mem {l : List MSt} (h : stsV lo lp d l = true) : ∀ k, k ∈ l → stV lo lp d k = true := by
  induction l with
  | nil => intro k hk; cases hk
  | cons x r ih =>
    rw [stsV, Bool.and_eq_true] at h
    intro k hk
    rcases List.mem_cons.1 hk with rfl | hk
    · exact h.1
    · exact ih h.2 k hk
theorem ex_wf : ∀ e : MEx, ∀ d, exI e → exV lo d e = true → ExW lo e := by
  intro e
  induction e using MEx.ind with
  | h e ih =>
    intro d hI hV
    rw [exV_eq, Bool.and_eq_true, decide_eq_true_eq] at hV
    obtain ⟨⟨_, hq⟩, hk⟩ := hV
    refine .mk ⟨hI.own.n, ?_, esQ_rng hq, fun h => ?_, fun h => ?_, fun h => ?_, fun h => ?_, fun h => ?_, fun h => ?_⟩ fun k hkm => ih k hkm (d + 1) (exsI_mem hI.kids hkm) (exsV_mem hk k hkm)
    · unfold esQ at hq; rcases hq with h | h | h | h | h | h | h | h | h | h | h | h | h <;> omega
    · exact ⟨((esQ_2 h).1 hq).2.2.1, ((esQ_2 h).1 hq).2.2.2⟩
    · rcases h with h | h
      · exact ((esQ_3 h).1 hq).1
      · exact ((esQ_13 h).1 hq).1
    · rcases h with h | h | h
      · exact ((esQ_4 h).1 hq).1
      · exact ((esQ_5 h).1 hq).1
      · exact ((esQ_10 h).1 hq).1
    · exact ((esQ_7 h).1 hq).1
    · exact ((esQ_12 h).1 hq).1
    · exact ((esQ_6 h).1 hq).1
theorem st_wf : ∀ x : MSt, ∀ lp d, stI x → stV lo lp d x = true → StW lo x := by
  intro x
  induction x using MSt.ind with
  | h x ihb ihl =>
    intro lp d hI hV
    rw [stV_eq, Bool.and_eq_true, Bool.and_eq_true, Bool.and_eq_true, decide_eq_true_eq] at hV
    obtain ⟨⟨_, hq⟩, he, hb, hl⟩ := hV
    refine .mk ⟨hI.own.n, sfQ_rng hq, fun h => ?_, fun h => ?_, fun h => ?_, ?_, hI.own.body, hI.own.els⟩ (fun k hk => ex_wf k _ (exsI_mem hI.exprs hk) (exsV_mem he k hk)) (fun k hk => ihb k hk _ _ (stsI_mem hI.body hk) (stsV_mem hb k hk)) (fun k hk => ihl k hk _ _ (stsI_mem hI.els hk) (stsV_mem hl k hk))
    · exact ⟨((sfQ_1 h).1 hq).2.2.2.1, ((sfQ_1 h).1 hq).2.2.2.2⟩
    · rcases h with h | h | h | h
      · exact ((sfQ_1 h).1 hq).1
      · exact ((sfQ_3 h).1 hq).1
      · exact ((sfQ_4 h).1 hq).1
      · exact ((sfQ_5 h).1 hq).1
    · exact ((sfQ_2 h).1 hq).1
    · unfold sfQ at hq; rcases hq with h | h | h | h | h | h | h | h | h | h <;> omega
end
def fnQ (f : TFn) : Prop := nameQ f.nm ∧ (0 ≤ f.pa ∧ f.pa ≤ 16) ∧ (f.pa ≤ f.lo ∧ f.lo ≤ 2000)
instance (f : TFn) : Decidable (fnQ f) := by unfold fnQ; infer_instance
def fnV (f : TFn) : Bool := decide (fnQ f) && stsV f.lo 0 0 f.body
structure TFn.In (f : TFn) : Prop where
  nm : LenOk f.nm.size
  pa : In64 f.pa
  lo : In64 f.lo
  len : LenOk f.body.length
  body : stsI f.body
theorem fn_wf {f : TFn} (hI : f.In) (h : fnV f = true) : f.WF := by
  unfold fnV at h
  rw [Bool.and_eq_true, decide_eq_true_eq] at h
  obtain ⟨hq, h4⟩ := h
  unfold fnQ at hq
  obtain ⟨_, ⟨h1, _⟩, h2, h3⟩ := hq
  exact ⟨h1, h2, h3, hI.len, fun x hx => st_wf x _ _ (stsI_mem hI.body hx) (stsV_mem h4 x hx)⟩
def cntM {α : Type} [BEq α] (ks : List α) : List (α × Int) := ks.foldl (fun l k => upk l k ((lkp l k).getD 0 + 1)) []
theorem cntM_snoc {α : Type} [BEq α] (ks : List α) (k : α) : cntM (ks ++ [k]) = upk (cntM ks) k ((lkp (cntM ks) k).getD 0 + 1) := by unfold cntM; rw [List.foldl_append]; rfl
theorem cntM_get {α : Type} [BEq α] [LawfulBEq α] (a : α) : ∀ ks : List α, (lkp (cntM ks) a).getD 0 = (ks.count a : Int) := by
  intro ks
  have key : ∀ n (ks : List α), ks.length = n → (lkp (cntM ks) a).getD 0 = (ks.count a : Int) := by
    intro n
    induction n with
    | zero => intro ks h; rw [List.eq_nil_of_length_eq_zero h]; rfl
    | succ n ih =>
      intro ks h
      obtain ⟨r, k, rfl⟩ : ∃ r k, ks = r ++ [k] := ⟨ks.dropLast, ks.getLast (by intro h0; rw [h0] at h; cases h), (List.dropLast_concat_getLast _).symm⟩
      have hr := ih r (by simpa using h)
      rw [cntM_snoc, lkp_upk, List.count_append]
      by_cases e : a = k
      · subst e
        rw [BEq.rfl]
        simp [hr]
      · rw [beq_eq_false_iff_ne.2 e]
        have : [k].count a = 0 := by simp [List.count_cons]; exact fun h => e h.symm
        simp [this, hr]
  exact key _ ks rfl
def datQ (d : FDat) : Prop := (∀ (j : Nat) (r : Int × ByteArray), d.refs[j]? = some r → nameQ r.2 ∧ (0 ≤ r.1 ∧ r.1 < (d.words.length : Int)) ∧ r.1 ∉ (d.refs.take j).map (·.1)) ∧ nameQ d.nm
noncomputable instance (d : FDat) : Decidable (datQ d) := Classical.propDecidable _
end Go.Mor
namespace Go.Mor
open Go.RowKit
end Go.Mor
namespace Go.Mor
open Go.RowKit
inductive Reach (T : Int → List Int) : Int → Prop
  | zero : Reach T 0
  | step {x t : Int} : Reach T x → t ∈ T x → Reach T t
end Go.Mor
namespace Go.Mor
open Go.RowKit
section
variable {α : Type} {enc : α → Value} {rows : List RowV} {l : List (List α)}
end
end Go.Mor
namespace Go.Mor
open Go.RowKit
end Go.Mor
namespace Go.Mor
open Go.RowKit
section
variable (T : Int → List Int)
end
section
variable {T : Int → List Int} {pl : Int → Int}
open Classical in
end
end Go.Mor
namespace Go.Mor
open Go.RowKit
section
variable {T : Int → List Int} {pl : Int → Int}
variable {up : Int → Int}
section
variable {b c : Int}
end
end
end Go.Mor
namespace Go.Mor
open Go.RowKit
end Go.Mor
namespace Go.Mor
open Go.RowKit
section
variable {T : Int → List Int} {pl up : Int → Int} {n : Nat} {atl ab : List Int}
end
end Go.Mor
namespace Go.Mor
open Go.RowKit
end Go.Mor
namespace Go.Mor
open Go.RowKit
section
variable {bs : List SB} {up : Int → Int}
end
end Go.Mor

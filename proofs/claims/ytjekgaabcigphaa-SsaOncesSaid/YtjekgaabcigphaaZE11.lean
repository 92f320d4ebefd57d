/-
  Texts of the proof, part 11.
-/
import Derived.Test.YtjekgaabcigphaaZE10
import Derived.Laws.IdiomCopy
import Derived.Laws.Cover3
import Derived.Laws.StructEq
import Derived.ChangeKeysEq
set_option maxRecDepth 10000
namespace Go.Mor
open Go.RowKit
section
variable {P : Program} {t : TypeId}
end
section
variable {k m : Nat}
end
section
variable {P : Program} {c : Code} {K : Act → World → Prop} {Q : Exit → Act → World → Prop} {a : Act} {w w0 : World} {S : Nat → Prop} {L : List Res} {k k' : Nat} {N : FN} {env : Env}
variable {d : Option Nat} {ty : Nat} {g : Option (Nat × Bool)}
end
end Go.Mor
namespace Go.Mor
open Go.RowKit
def bnE (c : Code) (N : FN) (env : Env) (k : Nat) : Option (Option Nat × BinOp × TypeId × Value × Value) := match coreAt c k with
  | some (d, .binOp op t x y _, _, g) => match guardE c g env, okd d N, ev env x, ev env y with
    | some true, true, some u, some v => some (d, op, t, u, v)
    | _, _, _, _ => none
  | _ => none
section
variable {P : Program} {c : Code} {Q : Exit → Act → World → Prop} {N : FN} {i : Nat} {env0 : Env} {wr : World} {sp : Nat → Spec}
end
end Go.Mor
namespace Go.Mor
open Go.RowKit
def boI (op : BinOp) (kd : IntKind) (a b : Int) : Option Int := match op with
  | .add => some (kd.wrap (a + b))
  | .sub => some (kd.wrap (a - b))
  | .mul => some (kd.wrap (a * b))
  | .and => some (kd.wrap ((BitVec.ofInt kd.bits a &&& BitVec.ofInt kd.bits b).toNat : Int))
  | .or => some (kd.wrap ((BitVec.ofInt kd.bits a ||| BitVec.ofInt kd.bits b).toNat : Int))
  | .xor => some (kd.wrap ((BitVec.ofInt kd.bits a ^^^ BitVec.ofInt kd.bits b).toNat : Int))
  | _ => none
theorem run_boI {P : Program} {op : BinOp} {kd : IntKind} {a b z : Int} (h : boI op kd a b = some z) (t : TypeId) (w : World) : (binOp op t (.int kd a) (.int kd b)).run P w = .ok (.int kd z) w := by
  cases op <;> simp only [boI] at h <;> first
    | (cases h; done)
    | (injection h with h; subst h; simp [binOp, Op.intArith, Op.intBits])
def boP (op : BinOp) (kd : IntKind) (a b : Int) : Option Int := match op with
  | .quo => some (kd.wrap (a.tdiv b))
  | .rem => some (a.tmod b)
  | _ => none
theorem run_boP {P : Program} {op : BinOp} {kd : IntKind} {a b z : Int} (h : boP op kd a b = some z) (hb : b ≠ 0) (t : TypeId) (w : World) : (binOp op t (.int kd a) (.int kd b)).run P w = .ok (.int kd z) w := by
  cases op <;> simp only [boP] at h <;> first
    | (cases h; done)
    | (injection h with h; subst h; simp [binOp, Op.intDiv, hb])
def boS (op : BinOp) (kd : IntKind) (a b : Int) : Option Int := match op with
  | .shl => some (kd.wrap (a * 2 ^ min b.toNat kd.bits))
  | .shr => some (a.fdiv (2 ^ min b.toNat kd.bits))
  | _ => none
theorem run_boS {P : Program} {op : BinOp} {kd k2 : IntKind} {a b z : Int} (h : boS op kd a b = some z) (hb : 0 ≤ b) (t : TypeId) (w : World) : (binOp op t (.int kd a) (.int k2 b)).run P w = .ok (.int kd z) w := by
  have hn : ¬ b < 0 := by omega
  cases op <;> simp only [boS] at h <;> first
    | (cases h; done)
    | (injection h with h; subst h; simp [binOp, Op.shift, hn])
section
variable {P : Program} {c : Code} {K : Act → World → Prop} {Q : Exit → Act → World → Prop} {w w0 : World} {S : Nat → Prop} {L : List Res} {k : Nat} {N : FN} {env : Env}
theorem From_bin {a : Act} {d : Option Nat} {op : BinOp} {t : TypeId} {kd k2 : IntKind} {i j z : Int} (hF : Fr a N env) (hk : bnE c N env k = some (d, op, t, .int kd i, .int k2 j))
    (hr : (binOp op t (.int kd i) (.int k2 j)).run P w = .ok (.int kd z) w) (h : ∀ a', a' = a.put d (.int kd z) → Fr a' N (putE env d (.int kd z)) → From P c K Q (k + 1) a' w) : From P c K Q k a w := by
  unfold bnE at hk
  split at hk
  · rename_i g0
    split at hk
    · rename_i g1 g2 g3 g4
      simp only [Option.some.injEq, Prod.mk.injEq] at hk
      obtain ⟨e1, e2, e3, e4, e5⟩ := hk
      refine From_same g0 hF g1 (by rw [e1] at g2; exact e1 ▸ g2) rfl (fun o ho => ?_) (by rw [e1]; exact h)
      unfold execOp
      rw [ho, e2, e3]
      have hq : ∀ x y, (eqGuard op t x y (.int kd i) (.int k2 j)).run P w = .ok () w := by
        intro x y
        simp only [eqGuard]
        split <;> simp
      simp only [hF.ev g3, hF.ev g4, e4, e5, Sem.run_bind, hq, hr, Result.andThen_ok]
      rfl
    · cases hk
  · cases hk
def biE (f : BinOp → IntKind → Int → Int → Option Int) (c : Code) (N : FN) (env : Env) (k : Nat) : Option (Option Nat × IntKind × IntKind × Int × Int) := match bnE c N env k with
  | some (d, op, _, .int kd i, .int k2 j) => match f op kd i j with
    | some z => some (d, kd, k2, j, z)
    | none => none
  | _ => none
theorem bi_spec {f : BinOp → IntKind → Int → Int → Option Int} {d : Option Nat} {kd k2 : IntKind} {j z : Int} (h : biE f c N env k = some (d, kd, k2, j, z)) : ∃ op t i, bnE c N env k = some (d, op, t, .int kd i, .int k2 j) ∧ f op kd i j = some z := by
  unfold biE at h
  split at h
  · rename_i h0
    split at h
    · rename_i h1
      simp only [Option.some.injEq, Prod.mk.injEq] at h
      obtain ⟨rfl, rfl, rfl, rfl, rfl⟩ := h
      exact ⟨_, _, _, h0, h1⟩
    · cases h
  · cases h
theorem zbi (kd : IntKind) (z : Int) (j : Int) (h : ∀ a, Fr a N (putE env (dstAt c k) (.int kd z)) → From P c K Q (k + 1) a w) (hk : biE boI c N env k = some (dstAt c k, kd, kd, j, z) := by kernel_rfl) : ∀ a, Fr a N env → From P c K Q k a w := fun _ hF => by
  obtain ⟨op, t, i, h0, h1⟩ := bi_spec hk
  exact From_bin hF h0 (run_boI h1 t w) (fun a' _ => h a')
theorem zbd (kd : IntKind) (z : Int) (j : Int) (hj : j ≠ 0) (h : ∀ a, Fr a N (putE env (dstAt c k) (.int kd z)) → From P c K Q (k + 1) a w) (hk : biE boP c N env k = some (dstAt c k, kd, kd, j, z) := by kernel_rfl) : ∀ a, Fr a N env → From P c K Q k a w := fun _ hF => by
  obtain ⟨op, t, i, h0, h1⟩ := bi_spec hk
  exact From_bin hF h0 (run_boP h1 hj t w) (fun a' _ => h a')
theorem zbs (kd k2 : IntKind) (z : Int) (j : Int) (hj : 0 ≤ j) (h : ∀ a, Fr a N (putE env (dstAt c k) (.int kd z)) → From P c K Q (k + 1) a w) (hk : biE boS c N env k = some (dstAt c k, kd, k2, j, z) := by kernel_rfl) : ∀ a, Fr a N env → From P c K Q k a w := fun _ hF => by
  obtain ⟨op, t, i, h0, h1⟩ := bi_spec hk
  exact From_bin hF h0 (run_boS h1 hj t w) (fun a' _ => h a')
def unE (c : Code) (N : FN) (env : Env) (k : Nat) : Option (Option Nat × UnOp × IntKind × Int) := match coreAt c k with
  | some (d, .unOp op _ x, _, g) => match guardE c g env, okd d N, ev env x with
    | some true, true, some (.int kd i) => some (d, op, kd, i)
    | _, _, _ => none
  | _ => none
def unI (op : UnOp) (kd : IntKind) (a : Int) : Option Int := match op with
  | .neg => some (kd.wrap (0 - a))
  | .xor => some (kd.wrap ((BitVec.ofInt kd.bits (if kd.signed then -1 else kd.max) ^^^ BitVec.ofInt kd.bits a).toNat : Int))
  | _ => none
theorem zui (op : UnOp) (i : Int) (kd : IntKind) (z : Int) (h : ∀ a, Fr a N (putE env (dstAt c k) (.int kd z)) → From P c K Q (k + 1) a w) (hk : unE c N env k = some (dstAt c k, op, kd, i) := by kernel_rfl)
    (hz : unI op kd i = some z := by kernel_rfl) : ∀ a, Fr a N env → From P c K Q k a w := fun a hF => by
  unfold unE at hk
  split at hk
  · rename_i g0
    split at hk
    · rename_i g1 g2 g3
      simp only [Option.some.injEq, Prod.mk.injEq] at hk
      obtain ⟨rfl, rfl, rfl, rfl⟩ := hk
      refine From_unI g0 hF g1 g2 rfl g3 (z := .int _ z) (fun w => ?_) (fun a' _ => h a')
      unfold unI at hz
      split at hz
      · injection hz with hz; subst hz; simp [Op.unary, Op.intArith]
      · injection hz with hz; subst hz; simp [Op.unary, Op.intBits]
      · cases hz
    · cases hk
  · cases hk
def cvE (P : Program) (c : Code) (N : FN) (env : Env) (k : Nat) : Option (Option Nat × IntKind × Int) := match coreAt c k with
  | some (d, .convert t t' x, _, g) => match guardE c g env, okd d N, ev env x, P.underlying t, P.underlying t' with
    | some true, true, some (.int _ i), some (.int _), some (.int kd) => some (d, kd, i)
    | _, _, _, _, _ => none
  | _ => none
theorem zcv (i : Int) (kd : IntKind) (z : Int) (h : ∀ a, Fr a N (putE env (dstAt c k) (.int kd z)) → From P c K Q (k + 1) a w) (hz : kd.wrap i = z) (hk : cvE P c N env k = some (dstAt c k, kd, i) := by kernel_rfl) : ∀ a, Fr a N env → From P c K Q k a w := fun a hF => by
  unfold cvE at hk
  split at hk
  · rename_i g0
    split at hk
    · rename_i g1 g2 g3 g4 g5
      simp only [Option.some.injEq, Prod.mk.injEq] at hk
      obtain ⟨rfl, rfl, rfl⟩ := hk
      exact From_conv g0 hF g1 g2 rfl g3 g4 g5 hz (fun a' _ => h a')
    · cases hk
  · cases hk
end
section
variable {P : Program} {c : Code} {Q : Exit → Act → World → Prop} {N : FN} {i : Nat} {env0 : Env} {wr : World} {sp : Nat → Spec}
theorem dB (kd : IntKind) (z y : Int) (hv : sp i = .det (.int kd z) := by rfl) (hg : ∀ vs, gtE c i (predE c i sp vs env0) = some true := by intro _; kernel_rfl)
    (hk : ∀ vs, biE boI (one c i) N (predE c i sp vs env0) 0 = some (dstAt c i, kd, kd, y, z) := by intro _; kernel_rfl) (he : coreAt (one c i) 1 = none := by kernel_rfl) : OpOK P c Q N env0 wr sp i := by
  refine op_of hg (fun w vs hK hp a hF => ?_)
  obtain ⟨op, t, x, h0, h1⟩ := bi_spec (hk vs)
  exact From_bin hF h0 (run_boI h1 t w) (fun a' ea _ => From_end he ⟨_, ea, Kp.refl w, by rw [hv]; rfl⟩)
theorem dE {f : FuncId} {vs : List Value} {u u' : Value} {Ψ : Value → World → Prop} (hc : ∀ w, Kp wr w → Calls P f vs.toArray w (REnds (fun v w' => v = u ∧ Mem noS w w' []) Ψ)) (hq : ∀ v w', Ψ v w' → ∀ a, a.defers = N.D → Q (pan v) a w') (hu : u = u') (hv : sp i = .det u' := by rfl)
    (hg : ∀ vs, gtE c i (predE c i sp vs env0) = some true := by intro _; kernel_rfl)
    (hk : ∀ us, clE2 P (one c i) N (predE c i sp us env0) 0 = some (dstAt c i, f, vs) := by intro _; kernel_rfl) (he : coreAt (one c i) 1 = none := by kernel_rfl) : OpOK P c Q N env0 wr sp i := by
  refine op_of hg (fun w us hK hp a hF => ?_)
  refine From_clE _ f vs hF (hk us) (hc w hK) (fun v w' hv' a' ea _ => From_end he ⟨v, ea, hv'.2, ?_⟩) (fun v w' hv' => hq v w' hv' a hF.defers)
  rw [hv, hv'.1]; exact hu
end
end Go.Mor
namespace Go.Mor
open Go.RowKit
def Apart (l : List Res) : Prop := l.Pairwise (fun r s => ∀ g, r.fp g → ¬ s.fp g)
def Res.pk (l : List Res) : Res where
  fp k := ∃ r, r ∈ l ∧ r.fp k
  holds w := (∀ r, r ∈ l → r.holds w) ∧ Apart l
  stable := fun h hw => ⟨fun r hr => r.stable (fun g hg => h g ⟨r, hr, hg⟩) (hw.1 r hr), hw.2⟩
  lt := fun ⟨h1, _⟩ ⟨r, hr, hg⟩ => r.lt (h1 r hr) hg
section
variable {S : Nat → Prop} {w0 w w' : World} {l l' L : List Res} {r : Res}
theorem Mem.unpk (h : (Res.pk l).holds w) : Mem (Res.pk l).fp w w l :=
  ⟨rfl, rfl, rfl, Nat.le_refl _, fun _ _ _ => rfl, fun r hr => ⟨h.1 r hr, fun _ hg => .inl ⟨r, hr, hg⟩⟩, h.2⟩
theorem Mem.pk_holds (h : Mem S w0 w (l ++ L)) : (Res.pk l).holds w := ⟨fun r hr => (h.own r (List.mem_append_left _ hr)).1, (List.pairwise_append.1 h.apart).1⟩
theorem Mem.pack (h : Mem S w0 w (l ++ L)) : Mem S w0 w (.pk l :: L) := by
  obtain ⟨h1, h2, h3⟩ := List.pairwise_append.1 h.apart
  refine ⟨h.os, h.tape, h.output, h.size, h.kept, fun r hr => ?_, List.pairwise_cons.2 ⟨?_, h2⟩⟩
  · rcases List.mem_cons.1 hr with rfl | hr
    · exact ⟨h.pk_holds, fun g ⟨q, hq, hg⟩ => (h.own q (List.mem_append_left _ hq)).2 g hg⟩
    · exact h.own r (List.mem_append_right _ hr)
  · rintro r hr g ⟨q, hq, hg⟩
    exact h3 q hq r hr g hg
theorem Mem.unpack (h : Mem S w0 w (.pk l :: L)) : Mem S w0 w (l ++ L) := by
  obtain ⟨h1, h2⟩ := List.pairwise_cons.1 h.apart
  obtain ⟨⟨h3, h4⟩, h5⟩ := h.own _ (List.mem_cons_self ..)
  refine ⟨h.os, h.tape, h.output, h.size, h.kept, fun r hr => ?_, List.pairwise_append.2 ⟨h4, h2, fun q hq r hr g hg => h1 r hr g ⟨q, hq, hg⟩⟩⟩
  rcases List.mem_append.1 hr with hr | hr
  · exact ⟨h3 r hr, fun g hg => h5 g ⟨r, hr, hg⟩⟩
  · exact h.own r (List.mem_cons_of_mem _ hr)
theorem Mem.mdk (h : Mem S w0 w (l ++ L)) (h' : Mem (Res.pk l).fp w w' l') : Mem S w0 w' (l' ++ L) := by
  have h1 : Mem (Res.pk l).fp w w' (l' ++ []) := by rw [List.append_nil]; exact h'
  have h2 := h.pack.mod 0 rfl h1.pack
  exact Mem.unpack (by simpa using h2)
theorem RO.pk_at (hA : RO S w0 r) (h : Mem S w0 w (l ++ L)) : RO (Res.pk l).fp w r := by
  refine ⟨h.ro hA, fun g hg ⟨q, hq, hgq⟩ => ?_⟩
  have h1 := r.lt hA.1 hg
  rcases (h.own q (List.mem_append_left _ hq)).2 g hgq with h2 | h2
  · exact hA.2 g hg h2
  · omega
theorem RO.pk_own (h : Mem S w0 w (l ++ L)) (i : Nat) (hi : L[i]? = some r) : RO (Res.pk l).fp w r := by
  have hm := List.mem_of_getElem? hi
  refine ⟨(h.own r (List.mem_append_right _ hm)).1, fun g hg ⟨q, hq, hgq⟩ => ?_⟩
  exact (List.pairwise_append.1 h.apart).2.2 q hq r hm g hgq hg
end
theorem setCells_row {e n c : Nat} {g : Nat} : ∀ (xs : List Value) (o : Nat) (cs : List Value) (w : World), (Res.row e 1 (some ⟨g, 0, none⟩) n c cs).holds w → o + xs.length ≤ cs.length →
    Mem (Res.row e 1 (some ⟨g, 0, none⟩) n c cs).fp w (w.setCells g o xs) [.row e 1 (some ⟨g, 0, none⟩) n c (cs.take o ++ xs ++ cs.drop (o + xs.length))]
  | [], o, cs, w, hb, _ => by simpa [World.setCells] using Mem.initS hb
  | y :: ys, o, cs, w, hb, hl => by
    simp only [List.length_cons] at hl
    have hm := Mem.set_row (j := o) hb y
    rw [add_blk] at hm
    have ih := setCells_row ys (o + 1) (cs.set o y) (w.setCell ⟨g, o, none⟩ y) (hm.get 0 rfl) (by simp; omega)
    have e : (cs.set o y).take (o + 1) ++ ys ++ (cs.set o y).drop (o + 1 + ys.length) = cs.take o ++ (y :: ys) ++ cs.drop (o + (y :: ys).length) := by
      have e1 : (cs.set o y).take (o + 1) = cs.take o ++ [y] := by
        have : o < (cs.set o y).length := by simp; omega
        rw [List.take_succ_eq_append_getElem this]
        simp [List.take_set_of_le]
      have e2 : (cs.set o y).drop (o + 1 + ys.length) = cs.drop (o + (y :: ys).length) := by
        rw [List.drop_set_of_lt (by omega), List.length_cons, show o + 1 + ys.length = o + (ys.length + 1) by omega]
      rw [e1, e2]
      simp
    rw [e] at ih
    exact hm.mod 0 rfl ih
section
variable {P : Program} {c : Code} {K : Act → World → Prop} {Q : Exit → Act → World → Prop} {a : Act} {w w0 : World} {S : Nat → Prop} {L : List Res} {k k' : Nat} {N : FN} {env : Env} {d : Option Nat} {ty : Nat} {g : Option (Nat × Bool)}
theorem From_copyR {t u : TypeId} {x y : Operand} (hk : coreAt c k = some (d, .call { callee := .builtin .copy, args := #[x, y], argTypes := #[t, u] }, ty, g)) (hF : Fr a N env) (hg : guardE c g env = some true) (hd : okd d N = true) (hk' : k + 1 = k')
    {e e' b n dn dc m cap rc : Nat} {A : Option Addr} {xs cs : List Value} (ht : P.underlying t = some (.slice e)) (hs : (P.info? e).map (·.size) = some 1) (hx : ev env x = some (.slice (some ⟨b, 0, none⟩) dn dc)) (hy : ev env y = some (.slice A m cap))
    (hM : Mem S w0 w L) (i : Nat) (hL : L[i]? = some (.row e' 1 (some ⟨b, 0, none⟩) n rc cs)) (hsrc : (Res.rd A xs).holds w) (hn : m = xs.length) (hnd : m ≤ dn) (hl : xs.length ≤ cs.length) (h1 : ∀ v ∈ xs, v.oneCell' = true)
    (h : ∀ w', Mem S w0 w' (L.set i (.row e' 1 (some ⟨b, 0, none⟩) n rc (xs ++ cs.drop xs.length))) → ∀ a', a' = a.put d (goInt xs.length) → Fr a' N (putE env d (goInt xs.length)) → From P c K Q k' a' w') : From P c K Q k a w := by
  subst hk'
  have hb := hM.get i hL
  have hmin : Nat.min m dn = m := Nat.min_eq_left hnd
  have hrun : (Builtin.copy_ #[t, u] ty #[.slice (some ⟨b, 0, none⟩) dn dc, .slice A m cap]).run P w = .ok (goInt xs.length) (w.setCells b 0 xs) := by
    cases xs with
    | nil =>
      have : m = 0 := hn
      subst this
      exact run_copy_none w t u ty e _ A dn dc 0 cap ht hs (by simp)
    | cons v vs =>
      obtain ⟨ad, hA, _⟩ := hsrc 0 v rfl
      subst hA
      refine run_copy_cells w t u ty e b 0 dn dc ad m cap (v :: vs) ht hs (by rw [hmin, hn]) (fun j u hj => ?_) (fun j hj => ?_) (fun j hj => ?_) h1
      · obtain ⟨a', ha', hc⟩ := hsrc j u hj
        injection ha' with ha'
        subst ha'
        exact hc
      · obtain ⟨a', ha', hc⟩ := row_rd hb j cs[j] (by rw [List.getElem?_eq_getElem])
        injection ha' with ha'
        subst ha'
        rw [add_blk] at hc
        rw [Nat.zero_add, hc]; rfl
      · have h2 := row_frozen hb (0 + j)
        rw [add_blk] at h2
        exact h2
  have hm := setCells_row xs 0 cs w hb (by omega)
  have hm2 := hM.mod i hL hm
  refine From_val hk hF hg (v := goInt xs.length) (w' := w.setCells b 0 xs) (fun o ho hty => ?_) (h _ (by simpa using hm2) _ rfl (hF.put hd _))
  unfold execOp
  rw [ho, hty]
  simp only [resolve, invoke, builtin, Sem.run_bind, Sem.run_pure, Result.andThen_ok, List.map_toArray, List.map_cons, List.map_nil, hF.ev hx, hF.ev hy, hrun]
end
end Go.Mor
namespace Go.Mor
open Go.RowKit
def u8s (l : List Int) : List Value := l.map (Value.int .u8)
theorem u8s_len (l : List Int) : (u8s l).length = l.length := by simp [u8s]
theorem u8s_append (l m : List Int) : u8s (l ++ m) = u8s l ++ u8s m := by simp [u8s]
structure RC where
  E : Env0
  r : Nat
  fA : Option Addr
  fc : Nat
  sA : Option Addr
  sc : Nat
  mB : Nat
  dB : Nat
  mG : Nat
  iA : Option Addr
  ic : Nat
  oP : Addr
abbrev endV (k c : Int) : Value := .iface 133 (.agg #[.int .i64 k, .int .i64 c])
abbrev opsV (r : Nat) : List Value := [.nilFunc, .func (.func 35) #[pT r 0] #[], .func (.func 36) #[pT r 0] #[], .func (.func 37) #[pT r 0] #[],
  .func (.func 38) #[pT r 0] #[], .func (.func 39) #[pT r 0] #[], .func (.func 40) #[pT r 0] #[], .func (.func 41) #[pT r 0] #[],
  .func (.func 42) #[pT r 0] #[], .func (.func 43) #[pT r 0] #[], .func (.func 44) #[pT r 0] #[], .func (.func 45) #[pT r 0] #[],
  .func (.func 46) #[pT r 0] #[]]
def inAt (A : Option Addr) (cap : Nat) : Nat → Option Addr × Nat
  | 0 => (A, cap)
  | p + 1 => ((if (inAt A cap p).2 = 1 then (inAt A cap p).1 else (inAt A cap p).1.map (·.add (1 * 1))), (inAt A cap p).2 - 1)
theorem inAt_cap (A : Option Addr) (cap p : Nat) : (inAt A cap p).2 = cap - p := by
  induction p with
  | zero => rfl
  | succ p ih => show (inAt A cap p).2 - 1 = _; omega
theorem inAt_at (A : Option Addr) (cap : Nat) : ∀ p, p < cap → (inAt A cap p).1 = A.map (·.add p)
  | 0, _ => by cases A <;> simp [inAt, Addr.add]
  | p + 1, h => by
    show (if (inAt A cap p).2 = 1 then _ else _) = _
    have h1 := inAt_cap A cap p
    rw [if_neg (by omega), inAt_at A cap p (by omega)]
    cases A with
    | none => rfl
    | some a => simp only [Option.map_some, addr_add]
abbrev rcells (C : RC) (s : PSt) (oA : Option Addr) (oc : Nat) : List Value :=
  [.slice C.fA (C.E.fns.length + 1) C.fc, .slice C.sA (C.E.fns.length + 1) C.sc, .map (some C.mB), .map (some C.dB), .slice (some ⟨C.mG, 0, none⟩) C.E.memN C.E.memN, .int .i64 s.next,
    .slice (inAt C.iA C.ic s.pos).1 (C.E.inp.length - s.pos) (inAt C.iA C.ic s.pos).2, .slice oA s.out.length oc, .int .i64 C.E.fuel, .int .i64 s.steps, .int .i64 s.opened, .slice (some C.oP) 13 13]
abbrev runL (C : RC) (s : PSt) (oA : Option Addr) (oc : Nat) : List Res :=
  [.blk C.r 89 (rcells C s oA oc), .row 2 1 (some ⟨C.mG, 0, none⟩) C.E.memN C.E.memN (ints s.mem), .row 5 1 oA s.out.length oc (u8s s.out)]
def vK (l : List (ByteArray × Int)) : List (ByteArray × Value) := l.map (fun p => (p.1, .int .i64 p.2))
theorem lkp_vK (l : List (ByteArray × Int)) (s : ByteArray) : lkp (vK l) s = (lkp l s).map (Value.int .i64) := by
  induction l with
  | nil => rfl
  | cons x r ih =>
    obtain ⟨k, v⟩ := x
    have e1 : lkp (vK ((k, v) :: r)) s = match s == k with | true => some (.int .i64 v) | false => lkp (vK r) s := rfl
    have e2 : lkp ((k, v) :: r) s = match s == k with | true => some v | false => lkp r s := rfl
    rw [e1, e2]
    cases s == k with
    | true => rfl
    | false => exact ih
abbrev zeroFn : List Value := [.string ⟨#[]⟩, .bool false, .int .i64 0, .int .i64 0, .slice none 0 0]
def srcV (f : RFn) : List Value := f.srcs.map (fun q => .slice q.1 q.2.2.length q.2.1)
def RC.ro (C : RC) : Res := .all (
  .rds C.fA 5 (zeroFn :: C.E.fns.map RFn.cells) :: .rd C.sA (.slice none 0 0 :: C.E.fns.map (fun f => .slice f.qA f.srcs.length f.qc)) :: .map C.mB (inK .string (vK C.E.names)) :: .map C.dB (inK .string (vK C.E.data)) ::
  .rd (some C.oP) (opsV C.r) :: .rd C.iA (u8s C.E.inp) :: (C.E.fns.map (fun f => Res.fn f.A f.blks) ++ (C.E.fns.map (fun f => Res.rd f.qA (srcV f)) ++ C.E.fns.flatMap (fun f => f.srcs.map (fun q => Res.rd q.1 (ints q.2.2))))))
section
variable {S : Nat → Prop} {w : World} {C : RC}
theorem RO.rfns (h : RO S w C.ro) : RO S w (.rds C.fA 5 (zeroFn :: C.E.fns.map RFn.cells)) := h.sub (List.mem_cons_self ..)
theorem RO.rsrcs (h : RO S w C.ro) : RO S w (.rd C.sA (.slice none 0 0 :: C.E.fns.map (fun f => .slice f.qA f.srcs.length f.qc))) := h.sub (.tail _ (List.mem_cons_self ..))
theorem RO.rnames (h : RO S w C.ro) : RO S w (.map C.mB (inK .string (vK C.E.names))) := h.sub (.tail _ (.tail _ (List.mem_cons_self ..)))
theorem RO.rdata (h : RO S w C.ro) : RO S w (.map C.dB (inK .string (vK C.E.data))) := h.sub (.tail _ (.tail _ (.tail _ (List.mem_cons_self ..))))
theorem RO.rops (h : RO S w C.ro) : RO S w (.rd (some C.oP) (opsV C.r)) := h.sub (.tail _ (.tail _ (.tail _ (.tail _ (List.mem_cons_self ..)))))
theorem RO.rin (h : RO S w C.ro) : RO S w (.rd C.iA (u8s C.E.inp)) := h.sub (.tail _ (.tail _ (.tail _ (.tail _ (.tail _ (List.mem_cons_self ..))))))
theorem RO.rfn (h : RO S w C.ro) {k : Nat} {f : RFn} (hf : C.E.fns[k]? = some f) : RO S w (.fn f.A f.blks) :=
  h.sub (.tail _ (.tail _ (.tail _ (.tail _ (.tail _ (.tail _ (List.mem_append_left _ (List.mem_map.2 ⟨f, List.mem_of_getElem? hf, rfl⟩))))))))
theorem RO.rsrcv (h : RO S w C.ro) {k : Nat} {f : RFn} (hf : C.E.fns[k]? = some f) : RO S w (.rd f.qA (srcV f)) :=
  h.sub (.tail _ (.tail _ (.tail _ (.tail _ (.tail _ (.tail _ (List.mem_append_right _ (List.mem_append_left _ (List.mem_map.2 ⟨f, List.mem_of_getElem? hf, rfl⟩)))))))))
theorem RO.rsrc (h : RO S w C.ro) {k j : Nat} {f : RFn} {q : Option Addr × Nat × List Int} (hf : C.E.fns[k]? = some f) (hq : f.srcs[j]? = some q) : RO S w (.rd q.1 (ints q.2.2)) :=
  h.sub (.tail _ (.tail _ (.tail _ (.tail _ (.tail _ (.tail _ (List.mem_append_right _ (List.mem_append_right _ (List.mem_flatMap.2 ⟨f, List.mem_of_getElem? hf, List.mem_map.2 ⟨q, List.mem_of_getElem? hq, rfl⟩⟩)))))))))
end
structure BlkWF (f : RFn) (k : Nat) (x : FBlk) : Prop where
  lp : x.phis.length ≤ 20000
  li : x.insts.length ≤ 20000
  ends : endsQ f.blks.length x
  vIf : x.e = 1 → 0 ≤ x.v ∧ x.v < f.va
  vRet : x.e = 2 → -1 ≤ x.v ∧ x.v < f.va
  shape : ∀ i, i ∈ x.insts → shapeQ i
  args : ∀ i, i ∈ x.insts → ∀ v, v ∈ i.args → 0 ≤ v ∧ v < f.va
  dst : ∀ i, i ∈ x.insts → makesQ i.op → 0 ≤ i.dst ∧ i.dst < f.va
  pdst : ∀ p, p ∈ x.phis → 0 ≤ p.dst ∧ p.dst < f.va
  plen : ∀ p, p ∈ x.phis → p.args.length = (f.src k).length
  pargs : ∀ p, p ∈ x.phis → ∀ v, v ∈ p.args → 0 ≤ v ∧ v < f.va
structure RFn.WF (f : RFn) : Prop where
  ok : FOk f.blks
  pos : 0 < f.blks.length
  len : f.blks.length ≤ 1000
  pa0 : 0 ≤ f.pa
  pav : f.pa ≤ f.va
  va : f.va ≤ 20000
  first : ∀ x, f.blks[0]? = some x → x.phis = []
  blk : ∀ k x, f.blks[k]? = some x → BlkWF f k x
  slen : f.srcs.length = f.blks.length
  edge : ∀ (k : Nat) (x : FBlk) (t : Int), f.blks[k]? = some x → (x.e = 0 ∧ t = x.a ∨ x.e = 1 ∧ (t = x.a ∨ t = x.b)) → (k : Int) ∈ f.src t.toNat
  qlen : ∀ k, (f.src k).length ≤ 1000
structure RC.WF (C : RC) : Prop where
  fns : ∀ f, f ∈ C.E.fns → f.WF
  nfns : C.E.fns.length ≤ 1000
  mem : C.E.memN ≤ 262144
  fuel : 0 ≤ C.E.fuel ∧ C.E.fuel ≤ 4194304
  inp : C.E.inp.length ≤ 4096
  ic : C.E.inp.length ≤ C.ic
  bytes : ∀ b, b ∈ C.E.inp → 0 ≤ b ∧ b ≤ 255
structure RGood (C : RC) (s : PSt) : Prop where
  mem : s.mem.length = C.E.memN
  n1 : 1 ≤ s.next
  n2 : s.next ≤ C.E.memN
  pos : s.pos ≤ C.E.inp.length
  out : s.out.length ≤ 4096
  s1 : 0 ≤ s.steps
  s2 : s.steps ≤ C.E.fuel
  o1 : 0 ≤ s.opened
  o2 : s.opened ≤ 1200
theorem RGood.step {C : RC} {s : PSt} (h : RGood C s) (hn : ¬ s.steps = C.E.fuel) : RGood C { s with steps := s.steps + 1 } :=
  ⟨h.mem, h.n1, h.n2, h.pos, h.out, by have := h.s1; show 0 ≤ s.steps + 1; omega, by have := h.s2; show s.steps + 1 ≤ _; omega, h.o1, h.o2⟩
theorem RGood.set {C : RC} {s : PSt} (h : RGood C s) (k : Nat) (v : Int) : RGood C { s with mem := s.mem.set k v } := ⟨by show (s.mem.set k v).length = _; rw [List.length_set]; exact h.mem, h.n1, h.n2, h.pos, h.out, h.s1, h.s2, h.o1, h.o2⟩
theorem RGood.take {C : RC} {s : PSt} (h : RGood C s) {n : Int} (h0 : 0 ≤ n) (h1 : n ≤ (C.E.memN : Int) - s.next) : RGood C { s with next := s.next + n } :=
  ⟨h.mem, by have := h.n1; show 1 ≤ s.next + n; omega, by show s.next + n ≤ _; omega, h.pos, h.out, h.s1, h.s2, h.o1, h.o2⟩
theorem RGood.read {C : RC} {s : PSt} (h : RGood C s) (hp : s.pos < C.E.inp.length) : RGood C { s with pos := s.pos + 1 } := ⟨h.mem, h.n1, h.n2, hp, h.out, h.s1, h.s2, h.o1, h.o2⟩
theorem RGood.write {C : RC} {s : PSt} (h : RGood C s) (hp : s.out.length < 4096) (b : Int) : RGood C { s with out := s.out ++ [b] } := ⟨h.mem, h.n1, h.n2, h.pos, by show (s.out ++ [b]).length ≤ _; rw [List.length_append]; exact hp, h.s1, h.s2, h.o1, h.o2⟩
theorem RGood.enter {C : RC} {s : PSt} (h : RGood C s) (hp : ¬ s.opened = 1200) : RGood C { s with opened := s.opened + 1 } := ⟨h.mem, h.n1, h.n2, h.pos, h.out, h.s1, h.s2, by have := h.o1; show 0 ≤ s.opened + 1; omega, by have := h.o2; show s.opened + 1 ≤ _; omega⟩
def RV {α : Type} (C : RC) (S : Nat → Prop) (w : World) (f : α → Value) (g : Got α) (v : Value) (w' : World) : Prop :=
  ∃ x s oA oc, g = .ok x s ∧ v = f x ∧ RGood C s ∧ Mem S w w' (runL C s oA oc)
def RP {α : Type} (C : RC) (S : Nat → Prop) (w : World) (g : Got α) (v : Value) (w' : World) : Prop :=
  ∃ k c s oA oc, g = .stop k c s ∧ v = endV k c ∧ RGood C s ∧ Mem S w w' (runL C s oA oc)
abbrev rS (C : RC) (s : PSt) (oA : Option Addr) (oc : Nat) : Nat → Prop := (Res.pk (runL C s oA oc)).fp
abbrev unitV (_ : Unit) : Value := .tuple #[]
abbrev intV (x : Int) : Value := .int .i64 x
def RCalls {α : Type} (P : Program) (C : RC) (s : PSt) (oA : Option Addr) (oc : Nat) (w : World) (fn : FuncId) (args : List Value) (f : α → Value) (g : Got α) : Prop :=
  Calls P fn args.toArray w (REnds (RV C (rS C s oA oc) w f g) (RP C (rS C s oA oc) w g))
def CallOk (P : Program) (C : RC) (fn : FuncId) (call : Int → List Int → PSt → Got Int) (b : Int) : Prop :=
  ∀ (n : Int) (l : List Int) (bA : Option Addr) (bc : Nat) (s : PSt) (oA : Option Addr) (oc : Nat) (w : World), RGood C s → C.E.fuel - s.steps < b → (Res.pk (runL C s oA oc)).holds w → RO (rS C s oA oc) w C.ro →
    RO (rS C s oA oc) w (.rd bA (ints l)) → l.length ≤ 17 → RCalls P C s oA oc w fn [pT C.r 0, .int .i64 n, .slice bA l.length bc] intV (call n l s)
theorem byte_in {C : RC} (hC : C.WF) {p : Nat} : 0 ≤ C.E.inp.getD p 0 ∧ C.E.inp.getD p 0 ≤ 255 := by
  by_cases h : p < C.E.inp.length
  · have : C.E.inp.getD p 0 = C.E.inp[p] := by simp [List.getD, h]
    rw [this]
    exact hC.bytes _ (List.getElem_mem h)
  · have : C.E.inp.getD p 0 = 0 := by simp [List.getD, h]
    rw [this]
    omega
theorem in_some {w : World} {A : Option Addr} {cap : Nat} {l : List Int} (h : (Res.rd A (u8s l)).holds w) {p : Nat} (hp : p < l.length) (hc : l.length ≤ cap) : ∃ ad, (inAt A cap p).1 = some ad := by
  obtain ⟨ad, hA⟩ := rd_some h (by rw [u8s_len]; omega)
  rw [inAt_at A cap p (by omega), hA]
  exact ⟨_, rfl⟩
theorem in_cell {w : World} {A : Option Addr} {cap : Nat} {l : List Int} (h : (Res.rd A (u8s l)).holds w) {p : Nat} (hp : p < l.length) (hc : l.length ≤ cap) {ad : Addr} (had : (inAt A cap p).1 = some ad) :
    w.cell? (ad.add ((0 : Int).toNat * 1)) = some (.int .u8 (l.getD p 0)) := by
  obtain ⟨ad0, hA⟩ := rd_some h (by rw [u8s_len]; omega)
  rw [inAt_at A cap p (by omega), hA] at had
  injection had with had
  subst had
  have := rd_get h hA (j := p) (v := .int .u8 (l.getD p 0)) (by simp [u8s, List.getD, hp])
  show w.cell? ((ad0.add p).add 0) = _
  rw [addr_add]
  exact this
end Go.Mor
namespace Go.Mor
open Go.RowKit
theorem size_phisR {fs : List FBlk} {k : Nat} {x : FBlk} (h : fs[k]? = some x) : x.phis.length ≤ sizeF fs := by
  have hk := (List.getElem?_eq_some_iff.1 h).1
  have key : ∀ n, k < n → n ≤ fs.length → x.phis.length ≤ sizeTo fs n := by
    intro n
    induction n with
    | zero => intro h1; omega
    | succ n ih =>
      intro h1 h2
      obtain ⟨y, hy⟩ := get_of (l := fs) (i := n) (by omega)
      rw [sizeTo_succ hy]
      by_cases e : k = n
      · subst e
        rw [h] at hy
        injection hy with hy
        subst hy
        omega
      · have := ih (by omega) (by omega); omega
  have := key fs.length hk (Nat.le_refl _)
  unfold sizeF
  omega
theorem defs_ofR {fs : List FBlk} {k : Nat} {x : FBlk} (h : fs[k]? = some x) {d : Int × Int × Int} (hd : d ∈ blkDefs (k : Int) x) : d ∈ defsF fs := by
  unfold defsF defsTo
  rw [List.mem_flatMap]
  refine ⟨(x, k), ?_, hd⟩
  rw [List.take_length]
  exact List.mem_zipIdx_iff_getElem?.2 h
theorem defs_phiR {fs : List FBlk} {k : Nat} {x : FBlk} (h : fs[k]? = some x) {p : FPhi} (hp : p ∈ x.phis) : (p.dst, (k : Int), -1) ∈ defsF fs :=
  defs_ofR h (List.mem_append_left _ (List.mem_map.2 ⟨p, hp, rfl⟩))
theorem defs_insR {fs : List FBlk} {k : Nat} {x : FBlk} (h : fs[k]? = some x) {i : Nat} {p : FIns} (hp : x.insts[i]? = some p) (hm : makesQ p.op) : (p.dst, (k : Int), (i : Int)) ∈ defsF fs := by
  refine defs_ofR h (List.mem_append_right _ ?_)
  unfold insDefs
  rw [List.mem_map]
  exact ⟨(p, i), List.mem_filter.2 ⟨List.mem_zipIdx_iff_getElem?.2 hp, by simpa using hm⟩, rfl⟩
structure SrcOk (f : RFn) : Prop where
  len : f.srcs.length = f.blks.length
  at_ : ∀ k : Nat, k < f.blks.length → f.src k = srcs (bsOf f.blks) (k : Int)
theorem src_out {f : RFn} (h : SrcOk f) {k : Nat} (hk : ¬ k < f.blks.length) : f.src k = [] := by
  unfold RFn.src
  rw [List.getD_eq_getElem?_getD, List.getElem?_eq_none (by rw [h.len]; omega)]
  rfl
theorem wf_of {f : RFn} (hok : FOk f.blks) (hn : f.blks.length ≤ 1000) (hv : validN f.nm f.pa f.va f.blks = 0) (hs : SrcOk f) : f.WF := by
  unfold validN at hv
  by_cases hbig : (sizeF f.blks : Int) > 20000 ∨ f.va > 20000
  · rw [if_pos hbig] at hv; cases hv
  rw [if_neg hbig] at hv
  have hg : GoodQ f.nm f.pa f.va f.blks := Classical.byContradiction fun hg => by
    rw [if_neg hg] at hv
    cases hv
  have hpar := hg.par
  have rd : ∀ (k : Nat) (x : FBlk), f.blks[k]? = some x → ReadsQ (Dm (tg (bsOf f.blks))) (fun _ => 20000) finR f.pa f.va f.blks k x := fun k x hx => by
    have hk := (List.getElem?_eq_some_iff.1 hx).1
    exact reads_of hx (hg.reads k hk)
  refine ⟨hok, hg.pos, hn, hpar.1, hpar.2.2, by omega, fun x hx => List.eq_nil_of_length_eq_zero (hg.phis x hx), fun k x hx => ?_, hs.len, fun k x t hx ht => ?_, fun k => ?_⟩
  · have hk := (List.getElem?_eq_some_iff.1 hx).1
    have hm := List.mem_of_getElem? hx
    have hr := rd k x hx
    refine ⟨by have := size_phisR hx; omega, by have := size_ins hx; omega, hg.ends x hm, fun he => ?_, fun he => ?_, hg.vals.1 x hm, fun i hi v hv => ?_, fun i hi hmk => ?_, fun p hp => ?_, fun p hp => ?_, fun p hp v hv => ?_⟩
    · have := hr.fin (.inl he); exact ⟨this.1, this.2.1⟩
    · refine ⟨(ends_sr hg x hm).2 he, ?_⟩
      by_cases hv : x.v = -1
      · omega
      · exact (hr.fin (.inr ⟨he, hv⟩)).2.1
    · obtain ⟨j, hj⟩ := List.mem_iff_getElem?.1 hi
      obtain ⟨q, hq⟩ := List.mem_iff_getElem?.1 hv
      have := hr.insts j i hj q v hq
      exact ⟨this.1, this.2.1⟩
    · obtain ⟨j, hj⟩ := List.mem_iff_getElem?.1 hi
      have := hg.vals.2.1 _ (defs_insR hx hj hmk)
      simp only at this
      omega
    · have := hg.vals.2.1 _ (defs_phiR hx hp)
      simp only at this
      omega
    · obtain ⟨j, hj⟩ := List.mem_iff_getElem?.1 hp
      rw [hs.at_ k hk]
      exact (hr.phis j p hj).1
    · obtain ⟨j, hj⟩ := List.mem_iff_getElem?.1 hp
      obtain ⟨q, hq⟩ := List.mem_iff_getElem?.1 hv
      have h1 := hr.phis j p hj
      obtain ⟨s, hsq⟩ := get_of (l := srcs (bsOf f.blks) (k : Int)) (i := q) (by rw [← h1.1]; exact (List.getElem?_eq_some_iff.1 hq).1)
      have := h1.2 q v s hq hsq
      exact ⟨this.1, this.2.1⟩
  · have hk := (List.getElem?_eq_some_iff.1 hx).1
    have he := hg.ends x (List.mem_of_getElem? hx)
    have ht0 : 0 ≤ t ∧ t < (f.blks.length : Int) := by
      rcases he with ⟨h0, ha, _⟩ | ⟨h0, ha, hb, _⟩ | ⟨h0, _⟩ | ⟨h0, _⟩ <;> rcases ht with ⟨h1, h2⟩ | ⟨h1, h2⟩ <;> first | omega | (rcases h2 with h2 | h2 <;> omega)
    rw [hs.at_ t.toNat (by omega), Int.toNat_of_nonneg ht0.1, mem_srcs, bsOf_len]
    refine ⟨⟨by omega, by omega⟩, ?_⟩
    rw [tg_in (by omega) (x := x.sb) (by rw [Int.toNat_natCast]; exact bsOf_get hx)]
    unfold tgx
    rw [List.mem_filter, bsOf_len]
    refine ⟨?_, by simp [inR, ht0]⟩
    show t ∈ (if x.e = 0 then [x.a] else if x.e = 1 then (if x.a = x.b then [x.a] else [x.a, x.b]) else [])
    rcases ht with ⟨h1, h2⟩ | ⟨h1, h2⟩
    · rw [if_pos h1, h2]; simp
    · rw [if_neg (by omega), if_pos h1]
      by_cases e : x.a = x.b
      · rw [if_pos e]; rcases h2 with h2 | h2 <;> simp [h2, e]
      · rw [if_neg e]; rcases h2 with h2 | h2 <;> simp [h2]
  · by_cases hk : k < f.blks.length
    · rw [hs.at_ k hk]
      have := srcsTo_len (bsOf f.blks) (k : Int) (bsOf f.blks).length
      unfold srcs
      rw [bsOf_len] at this ⊢
      omega
    · rw [src_out hs hk]; simp
end Go.Mor
namespace Go.Mor
open Go.RowKit
def tailOk (c : Code) (m : Nat) : Bool := (List.range (opsOf c).size).all fun i => Nat.blt i m || (List.range i).all (fun j => reach c (opsOf c).size i j)
theorem reach_lt {c : Code} (hpl : predsLt c = true) : ∀ {n j i : Nat}, j < (opsOf c).size → reach c n j i = true → i < j
  | 0, j, i, _, h => by simp [reach] at h
  | n + 1, j, i, hj, h => by
    have hp : ∀ k, k ∈ predsOf c j → k < j := by
      intro k hk
      simp only [predsLt, List.all_eq_true, List.mem_range] at hpl
      have := hpl j hj k hk
      simpa [Nat.blt_eq] using this
    simp only [reach, Bool.or_eq_true, List.any_eq_true] at h
    rcases h with h | ⟨k, hk, h⟩
    · exact hp i (memN_iff.1 h)
    · have h1 := hp k hk
      have := reach_lt hpl (by omega) h
      omega
theorem none_ready {c : Code} (hpl : predsLt c = true) {listed : Array Bool} (hsz : listed.size = (opsOf c).size) (hr : Region.ready .any (opsOf c) listed = []) : ∀ j, j < (opsOf c).size → listed.getD j false = true := by
  intro j
  induction j using Nat.strongRecOn with
  | _ j ih =>
    intro hj
    cases hq : listed.getD j false with
    | true => rfl
    | false =>
      exfalso
      have : j ∈ Region.ready .any (opsOf c) listed := by
        simp only [Region.ready, List.mem_filter, List.mem_range, Bool.and_eq_true, Bool.not_eq_true']
        have hjl : j < listed.size := by omega
        refine ⟨hj, ?_, ?_⟩
        · simp [Array.getD, hjl] at hq ⊢
          exact hq
        · have ho : (opsOf c)[j]? = some (opsOf c)[j] := by simp [hj]
          simp only [ho, Option.map_some, Option.getD_some]
          rw [Array.all_eq_true_iff_forall_mem]
          intro e he
          cases hb : Region.binds .any e with
          | false => rfl
          | true =>
            have hmem : e.on ∈ predsOf c j := by
              simp only [predsOf, ho, List.mem_map, List.mem_filter]
              exact ⟨e, ⟨Array.mem_toList_iff.2 he, hb⟩, rfl⟩
            have hlt : e.on < j := by
              simp only [predsLt, List.all_eq_true, List.mem_range] at hpl
              have := hpl j hj e.on hmem
              simpa [Nat.blt_eq] using this
            simp [ih e.on hlt (by omega)]
      rw [hr] at this
      simp at this
theorem ready_preds {c : Code} {listed : Array Bool} {i : Nat} (hr : i ∈ Region.ready .any (opsOf c) listed) : ∀ j, j ∈ predsOf c i → listed.getD j false = true := by
  obtain ⟨_, _, o, ho, hpre⟩ := ready_spec hr
  intro j hj
  simp only [predsOf, ho, List.mem_map, List.mem_filter] at hj
  obtain ⟨e, ⟨he, hb⟩, rfl⟩ := hj
  exact hpre e he hb
theorem ready_not {c : Code} {listed : Array Bool} (hsz : listed.size = (opsOf c).size) {i : Nat} (hr : i ∈ Region.ready .any (opsOf c) listed) : listed.getD i false = false := by
  obtain ⟨hlt, hnl, _⟩ := ready_spec hr
  have : i < listed.size := by omega
  simp [Array.getD, this] at hnl ⊢
  exact hnl
def restL (c : Code) (m : Nat) : Env → Env
  | [] => []
  | (t, v) :: r => match memN ((List.range m).filterMap (dstAt c)) t with
    | true => restL c m r
    | false => (t, v) :: restL c m r
theorem look_restL {c : Code} {m : Nat} : ∀ {env : Env} {t : Nat} {v : Value}, look (restL c m env) t = some v → (t, v) ∈ env ∧ ∀ j, j < m → dstAt c j ≠ some t
  | [], t, v, h => by simp [restL, look] at h
  | (k, u) :: r, t, v, h => by
    unfold restL at h
    cases hm : memN ((List.range m).filterMap (dstAt c)) k with
    | true =>
      rw [hm] at h
      obtain ⟨h1, h2⟩ := look_restL h
      exact ⟨List.mem_cons_of_mem _ h1, h2⟩
    | false =>
      rw [hm] at h
      simp only [look] at h
      cases hq : Nat.beq k t with
      | false =>
        rw [hq] at h
        obtain ⟨h1, h2⟩ := look_restL h
        exact ⟨List.mem_cons_of_mem _ h1, h2⟩
      | true =>
        rw [hq] at h
        injection h with h
        have := Nat.eq_of_beq_eq_true hq
        subst this
        subst h
        refine ⟨List.mem_cons_self .., fun j hj hdj => ?_⟩
        have : memN ((List.range m).filterMap (dstAt c)) k = true := memN_iff.2 (List.mem_filterMap.2 ⟨j, List.mem_range.2 hj, hdj⟩)
        rw [this] at hm
        cases hm
section
variable {P : Program} {c : Code} {K : Act → World → Prop} {Q : Exit → Act → World → Prop} {N : FN} {env0 : Env} {wr : World} {sp : Nat → Spec}
theorem lst_set {listed : Array Bool} {i j : Nat} (hi : i < listed.size) : (listed.setIfInBounds i true).getD j false = (decide (j = i) || listed.getD j false) := by
  by_cases e : i = j
  · subst e; simp [Array.getD_eq_getD_getElem?, hi]
  · have : ¬ j = i := fun h => e h.symm
    simp [Array.getD_eq_getD_getElem?, Array.getElem?_setIfInBounds_ne e, this]
theorem any_tail (hpl : predsLt c = true) {m : Nat} (ht : tailOk c m = true) : ∀ (n fuel k : Nat) (listed : Array Bool) (a : Act) (w : World), listed.size = (opsOf c).size → (opsOf c).size ≤ k + n → n ≤ fuel → m ≤ k → k ≤ (opsOf c).size →
    (∀ j, j < (opsOf c).size → listed.getD j false = decide (j < k)) → From P c K Q k a w → wpAny P .any (opsOf c) (Exit.then K Q) fuel listed a w := by
  intro n
  induction n with
  | zero =>
    intro fuel k listed a w hsz hs hf hmk hks hl h
    have hk : k = (opsOf c).size := by omega
    subst hk
    have hK : K a w := by
      unfold From at h
      rw [List.drop_eq_nil_of_le (by simp)] at h
      exact h
    have hno : ∀ i, ¬ i ∈ Region.ready .any (opsOf c) listed := fun i hi => by
      have h1 := ready_not hsz hi
      have h2 := (ready_spec hi).1
      rw [hl i h2] at h1
      simp [h2] at h1
    cases fuel with
    | zero => exact ⟨List.eq_nil_iff_forall_not_mem.2 hno, hK⟩
    | succ fuel => exact ⟨fun _ => hK, fun i hi => absurd hi (hno i)⟩
  | succ n ih =>
    intro fuel k listed a w hsz hs hf hmk hks hl h
    by_cases hk : k < (opsOf c).size
    · cases fuel with
      | zero => omega
      | succ fuel =>
        refine ⟨fun hr => ?_, fun i hi => ?_⟩
        · have := none_ready hpl hsz hr k hk
          rw [hl k hk] at this
          simp at this
        · have hin := ready_not hsz hi
          have hilt := (ready_spec hi).1
          have hik : i = k := by
            rw [hl i hilt] at hin
            have hge : k ≤ i := by simpa using hin
            rcases Nat.lt_or_eq_of_le hge with hgt | he
            · exfalso
              simp only [tailOk, List.all_eq_true, List.mem_range, Bool.or_eq_true] at ht
              have h1 : reach c (opsOf c).size i k = true := by
                rcases ht i hilt with h1 | h1
                · have : i < m := by simpa [Nat.blt_eq] using h1
                  omega
                · exact h1 k hgt
              cases hn : (opsOf c).size with
              | zero => omega
              | succ N' =>
                rw [hn] at h1
                simp only [reach, Bool.or_eq_true, List.any_eq_true] at h1
                rcases h1 with h1 | ⟨q, hq, h1⟩
                · have := ready_preds hi k (memN_iff.1 h1)
                  rw [hl k hk] at this
                  simp at this
                · have h2 := ready_preds hi q hq
                  have hqi : q < i := by
                    simp only [predsLt, List.all_eq_true, List.mem_range] at hpl
                    have := hpl i hilt q hq
                    simpa [Nat.blt_eq] using this
                  rw [hl q (by omega)] at h2
                  have h3 : q < k := by simpa using h2
                  have := reach_lt hpl (by omega) h1
                  omega
            · exact he.symm
          subst hik
          have ho : (opsOf c)[i]? = some (opsOf c)[i] := by simp [hk]
          generalize hoo : (opsOf c)[i] = o at ho
          unfold From at h
          rw [drop_at ho] at h
          unfold wpList at h
          have next : ∀ a' w', wpList P (opsOf c) (Exit.then K Q) ((opsOf c).toList.drop (i + 1)) a' w' → wpAny P .any (opsOf c) (Exit.then K Q) fuel (listed.setIfInBounds i true) a' w' := by
            intro a' w' h'
            refine ih fuel (i + 1) _ a' w' (by simpa using hsz) (by omega) (by omega) (by omega) (by omega) (fun j hj => ?_) h'
            rw [lst_set (by omega), hl j hj]
            by_cases e : j = i
            · subst e; simp
            · have : (j < i + 1) ↔ (j < i) := by omega
              simp [e, this]
          unfold wpOp
          rw [ho]
          simp only []
          split at h
          · rename_i hw
            rw [if_pos hw]
            exact h.imp (Oper.wp_mono next) id
          · rename_i hw
            rw [if_neg hw]
            exact next _ _ h
    · exact ih fuel k listed a w hsz (by omega) (by omega) hmk hks hl h
theorem draw_tail (hd : dstsOk c = true) (hdn : ∀ i d, dstAt c i = some d → d < N.n) (hpl : predsLt c = true) {m : Nat} (ht : tailOk c m = true) (hm : m ≤ (opsOf c).size) (hops : ∀ i, i < m → OpOK P c Q N env0 wr sp i)
    (hend : ∀ a w, (∀ listed : Array Bool, (∀ j, j < m → listed.getD j false = true) → (∀ j, m ≤ j → listed.getD j false = false) → Known c N env0 wr sp listed a w → From P c K Q m a w)) :
    ∀ (n fuel : Nat) (listed : Array Bool) (a : Act) (w : World), listed.size = (opsOf c).size → ((List.range (opsOf c).size).filter (fun j => !listed.getD j false)).length = n → n ≤ fuel → (∀ j, m ≤ j → listed.getD j false = false) → Known c N env0 wr sp listed a w →
      wpAny P .any (opsOf c) (Exit.then K Q) fuel listed a w := by
  intro n
  induction n using Nat.strongRecOn with
  | _ n ih =>
    intro fuel listed a w hsz hn hf hup hk
    by_cases hall : ∀ j, j < m → listed.getD j false = true
    · have hlen : (opsOf c).size ≤ m + n := by
        have h1 : ((List.range (opsOf c).size).filter (fun j => !listed.getD j false)).length = (opsOf c).size - m := by
          have e : (List.range (opsOf c).size).filter (fun j => !listed.getD j false) = (List.range (opsOf c).size).filter (fun j => decide (m ≤ j)) := by
            apply List.filter_congr
            intro j _
            by_cases hj : j < m
            · rw [hall j hj]; simp; omega
            · rw [hup j (by omega)]; simp; omega
          rw [e]
          have key : ∀ N, ((List.range N).filter (fun j => decide (m ≤ j))).length = N - m := by
            intro N
            induction N with
            | zero => simp
            | succ N ihN =>
              rw [List.range_succ, List.filter_append, List.length_append, ihN]
              by_cases h : m ≤ N
              · simp [h]; omega
              · simp [h]; omega
          exact key _
        omega
      refine any_tail hpl ht n fuel m listed a w hsz hlen hf (Nat.le_refl _) hm (fun j hj => ?_) (hend a w listed hall hup hk)
      by_cases h : j < m
      · rw [hall j h]; simp [h]
      · rw [hup j (by omega)]; simp [h]
    · have hpos : 0 < n := by
        rcases Nat.eq_zero_or_pos n with h0 | h0
        · exfalso
          apply hall
          intro j hj
          cases hq : listed.getD j false with
          | true => rfl
          | false =>
            have : j ∈ (List.range (opsOf c).size).filter (fun j => !listed.getD j false) := List.mem_filter.2 ⟨List.mem_range.2 (by omega), by rw [hq]; rfl⟩
            have := List.length_pos_of_mem this
            omega
        · exact h0
      cases fuel with
      | zero => omega
      | succ fuel =>
        refine ⟨fun hr => absurd (fun j hj => none_ready hpl hsz hr j (by omega)) hall, fun i hi => ?_⟩
        obtain ⟨h1, h2, _⟩ := ready_spec hi
        have him : i < m := by
          rcases Nat.lt_or_ge i m with h | h
          · exact h
          · exfalso
            apply hall
            intro j hj
            simp only [tailOk, List.all_eq_true, List.mem_range, Bool.or_eq_true] at ht
            have hre : reach c (opsOf c).size i j = true := by
              rcases ht i h1 with h3 | h3
              · have : i < m := by simpa [Nat.blt_eq] using h3
                omega
              · exact h3 j (by omega)
            exact donebefore (ls := fun q => listed.getD q false) (fun j hj q hq => hk.2.2.2.1 j hj q hq) (fun q hq => ready_preds hi q hq) hre
        have hni := ready_not hsz hi
        have hil : i < listed.size := by omega
        refine draw_step hd hdn (hops i him) hsz hi hk (fun a' w' hk' => ?_)
        have hlt : ((List.range (opsOf c).size).filter (fun j => !(listed.setIfInBounds i true).getD j false)).length < n := by
          rw [← hn]
          have hsub : ((List.range (opsOf c).size).filter (fun j => !(listed.setIfInBounds i true).getD j false)) = ((List.range (opsOf c).size).filter (fun j => !listed.getD j false)).filter (fun j => !(Nat.beq j i)) := by
            rw [List.filter_filter]
            apply List.filter_congr
            intro j _
            rw [lst_set hil]
            by_cases e : j = i
            · subst e; simp
            · have hb : Nat.beq j i = false := by
                cases hq : Nat.beq j i with
                | false => rfl
                | true => exact absurd (Nat.eq_of_beq_eq_true hq) e
              simp [e, hb]
          rw [hsub]
          have hmem : i ∈ (List.range (opsOf c).size).filter (fun j => !listed.getD j false) := List.mem_filter.2 ⟨List.mem_range.2 h1, by rw [hni]; rfl⟩
          exact List.length_filter_lt_length_iff_exists.2 ⟨i, hmem, by simp⟩
        refine ih _ hlt fuel _ a' w' (by simpa using hsz) rfl (by omega) (fun j hj => ?_) hk'
        rw [lst_set hil, hup j hj]
        have : j ≠ i := by omega
        simp [this]
theorem zdt (m : Nat) (sp : Nat → Spec) {a : Act} (hF : Fr a N env0) (hops : ∀ i, i < m → OpOK P c Q N env0 wr sp i)
    (h : ∀ a' w' (vs : Nat → Value), Kp wr w' → (∀ j, j < m → (sp j).ok (vs j) w') → Fr a' N (valsE c sp vs (List.range m) ++ restL c m env0) → From P c K Q m a' w')
    (ht : tailOk c m = true := by kernel_rfl) (hm' : Nat.ble m (opsOf c).size = true := by kernel_rfl)
    (hk : kind c = .region true := by kernel_rfl) (hm : P.follows .mixedOrders = true := by kernel_rfl) (hd : dstsOk c = true := by kernel_rfl) (hpl : predsLt c = true := by kernel_rfl) (hkeys : keysOk env0 = true := by kernel_rfl)
    (hdn : (List.range (opsOf c).size).all (fun i => okd (dstAt c i) N) = true := by kernel_rfl) : W P c K Q a wr := by
  have hdn' : ∀ i d, dstAt c i = some d → d < N.n := by
    intro i d hi
    have hlt : i < (opsOf c).size := by
      simp only [dstAt] at hi
      cases ho : (opsOf c)[i]? with
      | none => simp [ho] at hi
      | some o => exact (Array.getElem?_eq_some_iff.1 ho).1
    simp only [List.all_eq_true, List.mem_range] at hdn
    have := hdn i hlt
    rw [hi] at this
    simpa [okd, Nat.blt_eq] using this
  have hm2 := Nat.le_of_ble_eq_true hm'
  cases c <;> simp [kind] at hk
  rename_i id ops dr
  subst hk
  refine wp_region_any hm ?_
  have hrep : ∀ j, (Array.replicate ops.size false).getD j false = false := by
    intro j
    simp only [Array.getD_eq_getD_getElem?, Array.getElem?_replicate]
    split <;> rfl
  have h0 : Known (.region id ops true) N env0 wr sp (Array.replicate ops.size false) a { wr with drawn := wr.drawn + 1 } := by
    refine ⟨Mem.drew wr, hF.defers, hF.size, ?_, ⟨fun _ => undef, ?_⟩, fun t v htv _ => hF.slot t v (keys_look hkeys htv)⟩
    · intro j hj; rw [hrep j] at hj; cases hj
    · intro j hj; rw [hrep j] at hj; cases hj
  refine draw_tail (c := .region id ops true) hd hdn' hpl ht hm2 hops ?_ _ ops.size _ a _ (by simp [opsOf]) rfl ?_ (fun j _ => hrep j) h0
  · intro a' w' listed hall hup hk
    obtain ⟨hkp, hdef, hsz, _, ⟨vs, hvs⟩, hbase⟩ := hk
    refine h a' w' vs hkp (fun j hj => (hvs j (hall j hj)).1) ⟨hdef, hsz, fun t v hv => ?_⟩
    rcases look_append hv with h1 | h1
    · obtain ⟨j, hj, hdj, rfl⟩ := look_vals h1
      obtain ⟨h2, h3⟩ := hvs j (hall j (List.mem_range.1 hj))
      rw [Spec.val_ok h2]
      exact h3 t hdj
    · obtain ⟨h2, h3⟩ := look_restL h1
      refine hbase t v h2 (fun j hj => ?_)
      rcases Nat.lt_or_ge j m with hjm | hjm
      · exact h3 j hjm
      · rw [hup j hjm] at hj; cases hj
  · refine Nat.le_trans (List.length_filter_le _ _) ?_
    simp [opsOf]
def Spec.never : Spec := .any (fun _ _ => False) (fun _ _ _ _ h => h)
variable {i : Nat}
theorem dF {f : FuncId} {vs : List Value} {Ψ : Value → World → Prop} (hc : ∀ w, Kp wr w → Calls P f vs.toArray w (REnds (fun _ _ => False) Ψ)) (hq : ∀ v w', Ψ v w' → ∀ a, a.defers = N.D → Q (pan v) a w')
    (hg : ∀ vs, gtE c i (predE c i sp vs env0) = some true := by intro _; kernel_rfl)
    (hk : ∀ us, clE2 P (one c i) N (predE c i sp us env0) 0 = some (dstAt c i, f, vs) := by intro _; kernel_rfl) : OpOK P c Q N env0 wr sp i := by
  refine op_of hg (fun w us hK hp a hF => ?_)
  exact From_clE _ f vs hF (hk us) (hc w hK) (fun v w' hv' a' ea _ => hv'.elim) (fun v w' hv' => hq v w' hv' a hF.defers)
end
theorem xpd {P : Program} {fn : Func} {Φ Ψ : Value → World → Prop} {v : Value} {a : Act} {w : World} {N : FN} (hd : a.defers = N.D) (h : Ψ v w) (hD : N.D = [] := by rfl) : bodyPost P fn (REnds Φ Ψ) (pan v) a w := ⟨hd.trans hD, v, rfl, h⟩
def paE (c : Code) (env : Env) (k : Nat) : Option Value := match coreAt c k with
  | some (_, .panic x, _, g) => match guardE c g env, ev env x with
    | some true, some v => some v
    | _, _ => none
  | _ => none
theorem zpa {P : Program} {c : Code} {K : Act → World → Prop} {Q : Exit → Act → World → Prop} {w : World} {k : Nat} {N : FN} {env : Env} (t : TypeId) (v : Value) (h : ∀ a, Fr a N env → Q (pan (.iface t v)) a w) (hk : paE c env k = some (.iface t v) := by kernel_rfl) : ∀ a, Fr a N env → From P c K Q k a w := fun a hF => by
  unfold paE at hk
  split at hk
  · rename_i h0
    split at hk
    · rename_i h1 h2
      injection hk with hk
      exact From_panic h0 hF h1 (h2.trans (congrArg some hk)) (h a hF)
    · cases hk
  · cases hk
end Go.Mor

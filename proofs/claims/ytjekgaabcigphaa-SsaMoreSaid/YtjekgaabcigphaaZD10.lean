/-
  Texts of the proof, part 10.
-/
import Derived.Test.YtjekgaabcigphaaZD9
import Derived.Laws.IdiomCopy
import Derived.Laws.Cover3
import Derived.Laws.StructEq
import Derived.ChangeKeysEq
set_option maxRecDepth 10000
namespace Go.Mor
open Go.RowKit
section
variable {P : Program} {t : TypeId}
end
section
variable {k m : Nat}
end
section
variable {P : Program} {c : Code} {K : Act → World → Prop} {Q : Exit → Act → World → Prop} {a : Act} {w w0 : World} {S : Nat → Prop} {L : List Res} {k k' : Nat} {N : FN} {env : Env}
variable {d : Option Nat} {ty : Nat} {g : Option (Nat × Bool)}
end
end Go.Mor
namespace Go.Mor
open Go.RowKit
def bnE (c : Code) (N : FN) (env : Env) (k : Nat) : Option (Option Nat × BinOp × TypeId × Value × Value) := match coreAt c k with
  | some (d, .binOp op t x y _, _, g) => match guardE c g env, okd d N, ev env x, ev env y with
    | some true, true, some u, some v => some (d, op, t, u, v)
    | _, _, _, _ => none
  | _ => none
section
variable {P : Program} {c : Code} {Q : Exit → Act → World → Prop} {N : FN} {i : Nat} {env0 : Env} {wr : World} {sp : Nat → Spec}
end
end Go.Mor
namespace Go.Mor
open Go.RowKit
def boI (op : BinOp) (kd : IntKind) (a b : Int) : Option Int := match op with
  | .add => some (kd.wrap (a + b))
  | .sub => some (kd.wrap (a - b))
  | .mul => some (kd.wrap (a * b))
  | .and => some (kd.wrap ((BitVec.ofInt kd.bits a &&& BitVec.ofInt kd.bits b).toNat : Int))
  | .or => some (kd.wrap ((BitVec.ofInt kd.bits a ||| BitVec.ofInt kd.bits b).toNat : Int))
  | .xor => some (kd.wrap ((BitVec.ofInt kd.bits a ^^^ BitVec.ofInt kd.bits b).toNat : Int))
  | _ => none
theorem run_boI {P : Program} {op : BinOp} {kd : IntKind} {a b z : Int} (h : boI op kd a b = some z) (t : TypeId) (w : World) : (binOp op t (.int kd a) (.int kd b)).run P w = .ok (.int kd z) w := by
  cases op <;> simp only [boI] at h <;> first
    | (cases h; done)
    | (injection h with h; subst h; simp [binOp, Op.intArith, Op.intBits])
def boP (op : BinOp) (kd : IntKind) (a b : Int) : Option Int := match op with
  | .quo => some (kd.wrap (a.tdiv b))
  | .rem => some (a.tmod b)
  | _ => none
theorem run_boP {P : Program} {op : BinOp} {kd : IntKind} {a b z : Int} (h : boP op kd a b = some z) (hb : b ≠ 0) (t : TypeId) (w : World) : (binOp op t (.int kd a) (.int kd b)).run P w = .ok (.int kd z) w := by
  cases op <;> simp only [boP] at h <;> first
    | (cases h; done)
    | (injection h with h; subst h; simp [binOp, Op.intDiv, hb])
def boS (op : BinOp) (kd : IntKind) (a b : Int) : Option Int := match op with
  | .shl => some (kd.wrap (a * 2 ^ min b.toNat kd.bits))
  | .shr => some (a.fdiv (2 ^ min b.toNat kd.bits))
  | _ => none
theorem run_boS {P : Program} {op : BinOp} {kd k2 : IntKind} {a b z : Int} (h : boS op kd a b = some z) (hb : 0 ≤ b) (t : TypeId) (w : World) : (binOp op t (.int kd a) (.int k2 b)).run P w = .ok (.int kd z) w := by
  have hn : ¬ b < 0 := by omega
  cases op <;> simp only [boS] at h <;> first
    | (cases h; done)
    | (injection h with h; subst h; simp [binOp, Op.shift, hn])
section
variable {P : Program} {c : Code} {K : Act → World → Prop} {Q : Exit → Act → World → Prop} {w w0 : World} {S : Nat → Prop} {L : List Res} {k : Nat} {N : FN} {env : Env}
theorem From_bin {a : Act} {d : Option Nat} {op : BinOp} {t : TypeId} {kd k2 : IntKind} {i j z : Int} (hF : Fr a N env) (hk : bnE c N env k = some (d, op, t, .int kd i, .int k2 j))
    (hr : (binOp op t (.int kd i) (.int k2 j)).run P w = .ok (.int kd z) w) (h : ∀ a', a' = a.put d (.int kd z) → Fr a' N (putE env d (.int kd z)) → From P c K Q (k + 1) a' w) : From P c K Q k a w := by
  unfold bnE at hk
  split at hk
  · rename_i g0
    split at hk
    · rename_i g1 g2 g3 g4
      simp only [Option.some.injEq, Prod.mk.injEq] at hk
      obtain ⟨e1, e2, e3, e4, e5⟩ := hk
      refine From_same g0 hF g1 (by rw [e1] at g2; exact e1 ▸ g2) rfl (fun o ho => ?_) (by rw [e1]; exact h)
      unfold execOp
      rw [ho, e2, e3]
      have hq : ∀ x y, (eqGuard op t x y (.int kd i) (.int k2 j)).run P w = .ok () w := by
        intro x y
        simp only [eqGuard]
        split <;> simp
      simp only [hF.ev g3, hF.ev g4, e4, e5, Sem.run_bind, hq, hr, Result.andThen_ok]
      rfl
    · cases hk
  · cases hk
def biE (f : BinOp → IntKind → Int → Int → Option Int) (c : Code) (N : FN) (env : Env) (k : Nat) : Option (Option Nat × IntKind × IntKind × Int × Int) := match bnE c N env k with
  | some (d, op, _, .int kd i, .int k2 j) => match f op kd i j with
    | some z => some (d, kd, k2, j, z)
    | none => none
  | _ => none
theorem bi_spec {f : BinOp → IntKind → Int → Int → Option Int} {d : Option Nat} {kd k2 : IntKind} {j z : Int} (h : biE f c N env k = some (d, kd, k2, j, z)) : ∃ op t i, bnE c N env k = some (d, op, t, .int kd i, .int k2 j) ∧ f op kd i j = some z := by
  unfold biE at h
  split at h
  · rename_i h0
    split at h
    · rename_i h1
      simp only [Option.some.injEq, Prod.mk.injEq] at h
      obtain ⟨rfl, rfl, rfl, rfl, rfl⟩ := h
      exact ⟨_, _, _, h0, h1⟩
    · cases h
  · cases h
theorem zbi (kd : IntKind) (z : Int) (j : Int) (h : ∀ a, Fr a N (putE env (dstAt c k) (.int kd z)) → From P c K Q (k + 1) a w) (hk : biE boI c N env k = some (dstAt c k, kd, kd, j, z) := by kernel_rfl) : ∀ a, Fr a N env → From P c K Q k a w := fun _ hF => by
  obtain ⟨op, t, i, h0, h1⟩ := bi_spec hk
  exact From_bin hF h0 (run_boI h1 t w) (fun a' _ => h a')
theorem zbd (kd : IntKind) (z : Int) (j : Int) (hj : j ≠ 0) (h : ∀ a, Fr a N (putE env (dstAt c k) (.int kd z)) → From P c K Q (k + 1) a w) (hk : biE boP c N env k = some (dstAt c k, kd, kd, j, z) := by kernel_rfl) : ∀ a, Fr a N env → From P c K Q k a w := fun _ hF => by
  obtain ⟨op, t, i, h0, h1⟩ := bi_spec hk
  exact From_bin hF h0 (run_boP h1 hj t w) (fun a' _ => h a')
theorem zbs (kd k2 : IntKind) (z : Int) (j : Int) (hj : 0 ≤ j) (h : ∀ a, Fr a N (putE env (dstAt c k) (.int kd z)) → From P c K Q (k + 1) a w) (hk : biE boS c N env k = some (dstAt c k, kd, k2, j, z) := by kernel_rfl) : ∀ a, Fr a N env → From P c K Q k a w := fun _ hF => by
  obtain ⟨op, t, i, h0, h1⟩ := bi_spec hk
  exact From_bin hF h0 (run_boS h1 hj t w) (fun a' _ => h a')
def unE (c : Code) (N : FN) (env : Env) (k : Nat) : Option (Option Nat × UnOp × IntKind × Int) := match coreAt c k with
  | some (d, .unOp op _ x, _, g) => match guardE c g env, okd d N, ev env x with
    | some true, true, some (.int kd i) => some (d, op, kd, i)
    | _, _, _ => none
  | _ => none
def unI (op : UnOp) (kd : IntKind) (a : Int) : Option Int := match op with
  | .neg => some (kd.wrap (0 - a))
  | .xor => some (kd.wrap ((BitVec.ofInt kd.bits (if kd.signed then -1 else kd.max) ^^^ BitVec.ofInt kd.bits a).toNat : Int))
  | _ => none
theorem zui (op : UnOp) (i : Int) (kd : IntKind) (z : Int) (h : ∀ a, Fr a N (putE env (dstAt c k) (.int kd z)) → From P c K Q (k + 1) a w) (hk : unE c N env k = some (dstAt c k, op, kd, i) := by kernel_rfl)
    (hz : unI op kd i = some z := by kernel_rfl) : ∀ a, Fr a N env → From P c K Q k a w := fun a hF => by
  unfold unE at hk
  split at hk
  · rename_i g0
    split at hk
    · rename_i g1 g2 g3
      simp only [Option.some.injEq, Prod.mk.injEq] at hk
      obtain ⟨rfl, rfl, rfl, rfl⟩ := hk
      refine From_unI g0 hF g1 g2 rfl g3 (z := .int _ z) (fun w => ?_) (fun a' _ => h a')
      unfold unI at hz
      split at hz
      · injection hz with hz; subst hz; simp [Op.unary, Op.intArith]
      · injection hz with hz; subst hz; simp [Op.unary, Op.intBits]
      · cases hz
    · cases hk
  · cases hk
def cvE (P : Program) (c : Code) (N : FN) (env : Env) (k : Nat) : Option (Option Nat × IntKind × Int) := match coreAt c k with
  | some (d, .convert t t' x, _, g) => match guardE c g env, okd d N, ev env x, P.underlying t, P.underlying t' with
    | some true, true, some (.int _ i), some (.int _), some (.int kd) => some (d, kd, i)
    | _, _, _, _, _ => none
  | _ => none
theorem zcv (i : Int) (kd : IntKind) (z : Int) (h : ∀ a, Fr a N (putE env (dstAt c k) (.int kd z)) → From P c K Q (k + 1) a w) (hz : kd.wrap i = z) (hk : cvE P c N env k = some (dstAt c k, kd, i) := by kernel_rfl) : ∀ a, Fr a N env → From P c K Q k a w := fun a hF => by
  unfold cvE at hk
  split at hk
  · rename_i g0
    split at hk
    · rename_i g1 g2 g3 g4 g5
      simp only [Option.some.injEq, Prod.mk.injEq] at hk
      obtain ⟨rfl, rfl, rfl⟩ := hk
      exact From_conv g0 hF g1 g2 rfl g3 g4 g5 hz (fun a' _ => h a')
    · cases hk
  · cases hk
end
section
variable {P : Program} {c : Code} {Q : Exit → Act → World → Prop} {N : FN} {i : Nat} {env0 : Env} {wr : World} {sp : Nat → Spec}
theorem dB (kd : IntKind) (z y : Int) (hv : sp i = .det (.int kd z) := by rfl) (hg : ∀ vs, gtE c i (predE c i sp vs env0) = some true := by intro _; kernel_rfl)
    (hk : ∀ vs, biE boI (one c i) N (predE c i sp vs env0) 0 = some (dstAt c i, kd, kd, y, z) := by intro _; kernel_rfl) (he : coreAt (one c i) 1 = none := by kernel_rfl) : OpOK P c Q N env0 wr sp i := by
  refine op_of hg (fun w vs hK hp a hF => ?_)
  obtain ⟨op, t, x, h0, h1⟩ := bi_spec (hk vs)
  exact From_bin hF h0 (run_boI h1 t w) (fun a' ea _ => From_end he ⟨_, ea, Kp.refl w, by rw [hv]; rfl⟩)
theorem dE {f : FuncId} {vs : List Value} {u u' : Value} {Ψ : Value → World → Prop} (hc : ∀ w, Kp wr w → Calls P f vs.toArray w (REnds (fun v w' => v = u ∧ Mem noS w w' []) Ψ)) (hq : ∀ v w', Ψ v w' → ∀ a, a.defers = N.D → Q (pan v) a w') (hu : u = u') (hv : sp i = .det u' := by rfl)
    (hg : ∀ vs, gtE c i (predE c i sp vs env0) = some true := by intro _; kernel_rfl)
    (hk : ∀ us, clE2 P (one c i) N (predE c i sp us env0) 0 = some (dstAt c i, f, vs) := by intro _; kernel_rfl) (he : coreAt (one c i) 1 = none := by kernel_rfl) : OpOK P c Q N env0 wr sp i := by
  refine op_of hg (fun w us hK hp a hF => ?_)
  refine From_clE _ f vs hF (hk us) (hc w hK) (fun v w' hv' a' ea _ => From_end he ⟨v, ea, hv'.2, ?_⟩) (fun v w' hv' => hq v w' hv' a hF.defers)
  rw [hv, hv'.1]; exact hu
end
end Go.Mor
namespace Go.Mor
open Go.RowKit
def Apart (l : List Res) : Prop := l.Pairwise (fun r s => ∀ g, r.fp g → ¬ s.fp g)
def Res.pk (l : List Res) : Res where
  fp k := ∃ r, r ∈ l ∧ r.fp k
  holds w := (∀ r, r ∈ l → r.holds w) ∧ Apart l
  stable := fun h hw => ⟨fun r hr => r.stable (fun g hg => h g ⟨r, hr, hg⟩) (hw.1 r hr), hw.2⟩
  lt := fun ⟨h1, _⟩ ⟨r, hr, hg⟩ => r.lt (h1 r hr) hg
section
variable {S : Nat → Prop} {w0 w w' : World} {l l' L : List Res} {r : Res}
theorem Mem.unpk (h : (Res.pk l).holds w) : Mem (Res.pk l).fp w w l :=
  ⟨rfl, rfl, rfl, Nat.le_refl _, fun _ _ _ => rfl, fun r hr => ⟨h.1 r hr, fun _ hg => .inl ⟨r, hr, hg⟩⟩, h.2⟩
theorem Mem.pk_holds (h : Mem S w0 w (l ++ L)) : (Res.pk l).holds w := ⟨fun r hr => (h.own r (List.mem_append_left _ hr)).1, (List.pairwise_append.1 h.apart).1⟩
theorem Mem.pack (h : Mem S w0 w (l ++ L)) : Mem S w0 w (.pk l :: L) := by
  obtain ⟨h1, h2, h3⟩ := List.pairwise_append.1 h.apart
  refine ⟨h.os, h.tape, h.output, h.size, h.kept, fun r hr => ?_, List.pairwise_cons.2 ⟨?_, h2⟩⟩
  · rcases List.mem_cons.1 hr with rfl | hr
    · exact ⟨h.pk_holds, fun g ⟨q, hq, hg⟩ => (h.own q (List.mem_append_left _ hq)).2 g hg⟩
    · exact h.own r (List.mem_append_right _ hr)
  · rintro r hr g ⟨q, hq, hg⟩
    exact h3 q hq r hr g hg
theorem Mem.unpack (h : Mem S w0 w (.pk l :: L)) : Mem S w0 w (l ++ L) := by
  obtain ⟨h1, h2⟩ := List.pairwise_cons.1 h.apart
  obtain ⟨⟨h3, h4⟩, h5⟩ := h.own _ (List.mem_cons_self ..)
  refine ⟨h.os, h.tape, h.output, h.size, h.kept, fun r hr => ?_, List.pairwise_append.2 ⟨h4, h2, fun q hq r hr g hg => h1 r hr g ⟨q, hq, hg⟩⟩⟩
  rcases List.mem_append.1 hr with hr | hr
  · exact ⟨h3 r hr, fun g hg => h5 g ⟨r, hr, hg⟩⟩
  · exact h.own r (List.mem_cons_of_mem _ hr)
theorem Mem.mdk (h : Mem S w0 w (l ++ L)) (h' : Mem (Res.pk l).fp w w' l') : Mem S w0 w' (l' ++ L) := by
  have h1 : Mem (Res.pk l).fp w w' (l' ++ []) := by rw [List.append_nil]; exact h'
  have h2 := h.pack.mod 0 rfl h1.pack
  exact Mem.unpack (by simpa using h2)
theorem RO.pk_at (hA : RO S w0 r) (h : Mem S w0 w (l ++ L)) : RO (Res.pk l).fp w r := by
  refine ⟨h.ro hA, fun g hg ⟨q, hq, hgq⟩ => ?_⟩
  have h1 := r.lt hA.1 hg
  rcases (h.own q (List.mem_append_left _ hq)).2 g hgq with h2 | h2
  · exact hA.2 g hg h2
  · omega
theorem RO.pk_own (h : Mem S w0 w (l ++ L)) (i : Nat) (hi : L[i]? = some r) : RO (Res.pk l).fp w r := by
  have hm := List.mem_of_getElem? hi
  refine ⟨(h.own r (List.mem_append_right _ hm)).1, fun g hg ⟨q, hq, hgq⟩ => ?_⟩
  exact (List.pairwise_append.1 h.apart).2.2 q hq r hm g hgq hg
end
theorem setCells_row {e n c : Nat} {g : Nat} : ∀ (xs : List Value) (o : Nat) (cs : List Value) (w : World), (Res.row e 1 (some ⟨g, 0, none⟩) n c cs).holds w → o + xs.length ≤ cs.length →
    Mem (Res.row e 1 (some ⟨g, 0, none⟩) n c cs).fp w (w.setCells g o xs) [.row e 1 (some ⟨g, 0, none⟩) n c (cs.take o ++ xs ++ cs.drop (o + xs.length))]
  | [], o, cs, w, hb, _ => by simpa [World.setCells] using Mem.initS hb
  | y :: ys, o, cs, w, hb, hl => by
    simp only [List.length_cons] at hl
    have hm := Mem.set_row (j := o) hb y
    rw [add_blk] at hm
    have ih := setCells_row ys (o + 1) (cs.set o y) (w.setCell ⟨g, o, none⟩ y) (hm.get 0 rfl) (by simp; omega)
    have e : (cs.set o y).take (o + 1) ++ ys ++ (cs.set o y).drop (o + 1 + ys.length) = cs.take o ++ (y :: ys) ++ cs.drop (o + (y :: ys).length) := by
      have e1 : (cs.set o y).take (o + 1) = cs.take o ++ [y] := by
        have : o < (cs.set o y).length := by simp; omega
        rw [List.take_succ_eq_append_getElem this]
        simp [List.take_set_of_le]
      have e2 : (cs.set o y).drop (o + 1 + ys.length) = cs.drop (o + (y :: ys).length) := by
        rw [List.drop_set_of_lt (by omega), List.length_cons, show o + 1 + ys.length = o + (ys.length + 1) by omega]
      rw [e1, e2]
      simp
    rw [e] at ih
    exact hm.mod 0 rfl ih
section
variable {P : Program} {c : Code} {K : Act → World → Prop} {Q : Exit → Act → World → Prop} {a : Act} {w w0 : World} {S : Nat → Prop} {L : List Res} {k k' : Nat} {N : FN} {env : Env} {d : Option Nat} {ty : Nat} {g : Option (Nat × Bool)}
theorem From_copyR {t u : TypeId} {x y : Operand} (hk : coreAt c k = some (d, .call { callee := .builtin .copy, args := #[x, y], argTypes := #[t, u] }, ty, g)) (hF : Fr a N env) (hg : guardE c g env = some true) (hd : okd d N = true) (hk' : k + 1 = k')
    {e e' b n dn dc m cap rc : Nat} {A : Option Addr} {xs cs : List Value} (ht : P.underlying t = some (.slice e)) (hs : (P.info? e).map (·.size) = some 1) (hx : ev env x = some (.slice (some ⟨b, 0, none⟩) dn dc)) (hy : ev env y = some (.slice A m cap))
    (hM : Mem S w0 w L) (i : Nat) (hL : L[i]? = some (.row e' 1 (some ⟨b, 0, none⟩) n rc cs)) (hsrc : (Res.rd A xs).holds w) (hn : m = xs.length) (hnd : m ≤ dn) (hl : xs.length ≤ cs.length) (h1 : ∀ v ∈ xs, v.oneCell' = true)
    (h : ∀ w', Mem S w0 w' (L.set i (.row e' 1 (some ⟨b, 0, none⟩) n rc (xs ++ cs.drop xs.length))) → ∀ a', a' = a.put d (goInt xs.length) → Fr a' N (putE env d (goInt xs.length)) → From P c K Q k' a' w') : From P c K Q k a w := by
  subst hk'
  have hb := hM.get i hL
  have hmin : Nat.min m dn = m := Nat.min_eq_left hnd
  have hrun : (Builtin.copy_ #[t, u] ty #[.slice (some ⟨b, 0, none⟩) dn dc, .slice A m cap]).run P w = .ok (goInt xs.length) (w.setCells b 0 xs) := by
    cases xs with
    | nil =>
      have : m = 0 := hn
      subst this
      exact run_copy_none w t u ty e _ A dn dc 0 cap ht hs (by simp)
    | cons v vs =>
      obtain ⟨ad, hA, _⟩ := hsrc 0 v rfl
      subst hA
      refine run_copy_cells w t u ty e b 0 dn dc ad m cap (v :: vs) ht hs (by rw [hmin, hn]) (fun j u hj => ?_) (fun j hj => ?_) (fun j hj => ?_) h1
      · obtain ⟨a', ha', hc⟩ := hsrc j u hj
        injection ha' with ha'
        subst ha'
        exact hc
      · obtain ⟨a', ha', hc⟩ := row_rd hb j cs[j] (by rw [List.getElem?_eq_getElem])
        injection ha' with ha'
        subst ha'
        rw [add_blk] at hc
        rw [Nat.zero_add, hc]; rfl
      · have h2 := row_frozen hb (0 + j)
        rw [add_blk] at h2
        exact h2
  have hm := setCells_row xs 0 cs w hb (by omega)
  have hm2 := hM.mod i hL hm
  refine From_val hk hF hg (v := goInt xs.length) (w' := w.setCells b 0 xs) (fun o ho hty => ?_) (h _ (by simpa using hm2) _ rfl (hF.put hd _))
  unfold execOp
  rw [ho, hty]
  simp only [resolve, invoke, builtin, Sem.run_bind, Sem.run_pure, Result.andThen_ok, List.map_toArray, List.map_cons, List.map_nil, hF.ev hx, hF.ev hy, hrun]
end
end Go.Mor
namespace Go.Mor
open Go.RowKit
def u8s (l : List Int) : List Value := l.map (Value.int .u8)
theorem u8s_len (l : List Int) : (u8s l).length = l.length := by simp [u8s]
theorem u8s_append (l m : List Int) : u8s (l ++ m) = u8s l ++ u8s m := by simp [u8s]
structure RC where
  E : Env0
  r : Nat
  fA : Option Addr
  fc : Nat
  sA : Option Addr
  sc : Nat
  mB : Nat
  dB : Nat
  mG : Nat
  iA : Option Addr
  ic : Nat
  oP : Addr
abbrev endV (k c : Int) : Value := .iface 133 (.agg #[.int .i64 k, .int .i64 c])
abbrev opsV (r : Nat) : List Value := [.nilFunc, .func (.func 35) #[pT r 0] #[], .func (.func 36) #[pT r 0] #[], .func (.func 37) #[pT r 0] #[],
  .func (.func 38) #[pT r 0] #[], .func (.func 39) #[pT r 0] #[], .func (.func 40) #[pT r 0] #[], .func (.func 41) #[pT r 0] #[],
  .func (.func 42) #[pT r 0] #[], .func (.func 43) #[pT r 0] #[], .func (.func 44) #[pT r 0] #[], .func (.func 45) #[pT r 0] #[],
  .func (.func 46) #[pT r 0] #[]]
def inAt (A : Option Addr) (cap : Nat) : Nat → Option Addr × Nat
  | 0 => (A, cap)
  | p + 1 => ((if (inAt A cap p).2 = 1 then (inAt A cap p).1 else (inAt A cap p).1.map (·.add (1 * 1))), (inAt A cap p).2 - 1)
theorem inAt_cap (A : Option Addr) (cap p : Nat) : (inAt A cap p).2 = cap - p := by
  induction p with
  | zero => rfl
  | succ p ih => show (inAt A cap p).2 - 1 = _; omega
theorem inAt_at (A : Option Addr) (cap : Nat) : ∀ p, p < cap → (inAt A cap p).1 = A.map (·.add p)
  | 0, _ => by cases A <;> simp [inAt, Addr.add]
  | p + 1, h => by
    show (if (inAt A cap p).2 = 1 then _ else _) = _
    have h1 := inAt_cap A cap p
    rw [if_neg (by omega), inAt_at A cap p (by omega)]
    cases A with
    | none => rfl
    | some a => simp only [Option.map_some, addr_add]
abbrev rcells (C : RC) (s : PSt) (oA : Option Addr) (oc : Nat) : List Value :=
  [.slice C.fA (C.E.fns.length + 1) C.fc, .slice C.sA (C.E.fns.length + 1) C.sc, .map (some C.mB), .map (some C.dB), .slice (some ⟨C.mG, 0, none⟩) C.E.memN C.E.memN, .int .i64 s.next,
    .slice (inAt C.iA C.ic s.pos).1 (C.E.inp.length - s.pos) (inAt C.iA C.ic s.pos).2, .slice oA s.out.length oc, .int .i64 C.E.fuel, .int .i64 s.steps, .int .i64 s.opened, .slice (some C.oP) 13 13]
abbrev runL (C : RC) (s : PSt) (oA : Option Addr) (oc : Nat) : List Res :=
  [.blk C.r 89 (rcells C s oA oc), .row 2 1 (some ⟨C.mG, 0, none⟩) C.E.memN C.E.memN (ints s.mem), .row 5 1 oA s.out.length oc (u8s s.out)]
def vK (l : List (ByteArray × Int)) : List (ByteArray × Value) := l.map (fun p => (p.1, .int .i64 p.2))
theorem lkp_vK (l : List (ByteArray × Int)) (s : ByteArray) : lkp (vK l) s = (lkp l s).map (Value.int .i64) := by
  induction l with
  | nil => rfl
  | cons x r ih =>
    obtain ⟨k, v⟩ := x
    have e1 : lkp (vK ((k, v) :: r)) s = match s == k with | true => some (.int .i64 v) | false => lkp (vK r) s := rfl
    have e2 : lkp ((k, v) :: r) s = match s == k with | true => some v | false => lkp r s := rfl
    rw [e1, e2]
    cases s == k with
    | true => rfl
    | false => exact ih
abbrev zeroFn : List Value := [.string ⟨#[]⟩, .bool false, .int .i64 0, .int .i64 0, .slice none 0 0]
def srcV (f : RFn) : List Value := f.srcs.map (fun q => .slice q.1 q.2.2.length q.2.1)
def RC.ro (C : RC) : Res := .all (
  .rds C.fA 5 (zeroFn :: C.E.fns.map RFn.cells) :: .rd C.sA (.slice none 0 0 :: C.E.fns.map (fun f => .slice f.qA f.srcs.length f.qc)) :: .map C.mB (inK .string (vK C.E.names)) :: .map C.dB (inK .string (vK C.E.data)) ::
  .rd (some C.oP) (opsV C.r) :: .rd C.iA (u8s C.E.inp) :: (C.E.fns.map (fun f => Res.fn f.A f.blks) ++ (C.E.fns.map (fun f => Res.rd f.qA (srcV f)) ++ C.E.fns.flatMap (fun f => f.srcs.map (fun q => Res.rd q.1 (ints q.2.2))))))
section
variable {S : Nat → Prop} {w : World} {C : RC}
theorem RO.rfns (h : RO S w C.ro) : RO S w (.rds C.fA 5 (zeroFn :: C.E.fns.map RFn.cells)) := h.sub (List.mem_cons_self ..)
theorem RO.rsrcs (h : RO S w C.ro) : RO S w (.rd C.sA (.slice none 0 0 :: C.E.fns.map (fun f => .slice f.qA f.srcs.length f.qc))) := h.sub (.tail _ (List.mem_cons_self ..))
theorem RO.rnames (h : RO S w C.ro) : RO S w (.map C.mB (inK .string (vK C.E.names))) := h.sub (.tail _ (.tail _ (List.mem_cons_self ..)))
theorem RO.rdata (h : RO S w C.ro) : RO S w (.map C.dB (inK .string (vK C.E.data))) := h.sub (.tail _ (.tail _ (.tail _ (List.mem_cons_self ..))))
theorem RO.rops (h : RO S w C.ro) : RO S w (.rd (some C.oP) (opsV C.r)) := h.sub (.tail _ (.tail _ (.tail _ (.tail _ (List.mem_cons_self ..)))))
theorem RO.rin (h : RO S w C.ro) : RO S w (.rd C.iA (u8s C.E.inp)) := h.sub (.tail _ (.tail _ (.tail _ (.tail _ (.tail _ (List.mem_cons_self ..))))))
theorem RO.rfn (h : RO S w C.ro) {k : Nat} {f : RFn} (hf : C.E.fns[k]? = some f) : RO S w (.fn f.A f.blks) :=
  h.sub (.tail _ (.tail _ (.tail _ (.tail _ (.tail _ (.tail _ (List.mem_append_left _ (List.mem_map.2 ⟨f, List.mem_of_getElem? hf, rfl⟩))))))))
theorem RO.rsrcv (h : RO S w C.ro) {k : Nat} {f : RFn} (hf : C.E.fns[k]? = some f) : RO S w (.rd f.qA (srcV f)) :=
  h.sub (.tail _ (.tail _ (.tail _ (.tail _ (.tail _ (.tail _ (List.mem_append_right _ (List.mem_append_left _ (List.mem_map.2 ⟨f, List.mem_of_getElem? hf, rfl⟩)))))))))
theorem RO.rsrc (h : RO S w C.ro) {k j : Nat} {f : RFn} {q : Option Addr × Nat × List Int} (hf : C.E.fns[k]? = some f) (hq : f.srcs[j]? = some q) : RO S w (.rd q.1 (ints q.2.2)) :=
  h.sub (.tail _ (.tail _ (.tail _ (.tail _ (.tail _ (.tail _ (List.mem_append_right _ (List.mem_append_right _ (List.mem_flatMap.2 ⟨f, List.mem_of_getElem? hf, List.mem_map.2 ⟨q, List.mem_of_getElem? hq, rfl⟩⟩)))))))))
end
structure BlkWF (f : RFn) (k : Nat) (x : FBlk) : Prop where
  lp : x.phis.length ≤ 20000
  li : x.insts.length ≤ 20000
  ends : endsQ f.blks.length x
  vIf : x.e = 1 → 0 ≤ x.v ∧ x.v < f.va
  vRet : x.e = 2 → -1 ≤ x.v ∧ x.v < f.va
  shape : ∀ i, i ∈ x.insts → shapeQ i
  args : ∀ i, i ∈ x.insts → ∀ v, v ∈ i.args → 0 ≤ v ∧ v < f.va
  dst : ∀ i, i ∈ x.insts → makesQ i.op → 0 ≤ i.dst ∧ i.dst < f.va
  pdst : ∀ p, p ∈ x.phis → 0 ≤ p.dst ∧ p.dst < f.va
  plen : ∀ p, p ∈ x.phis → p.args.length = (f.src k).length
  pargs : ∀ p, p ∈ x.phis → ∀ v, v ∈ p.args → 0 ≤ v ∧ v < f.va
structure RFn.WF (f : RFn) : Prop where
  ok : FOk f.blks
  pos : 0 < f.blks.length
  len : f.blks.length ≤ 1000
  pa0 : 0 ≤ f.pa
  pav : f.pa ≤ f.va
  va : f.va ≤ 20000
  first : ∀ x, f.blks[0]? = some x → x.phis = []
  blk : ∀ k x, f.blks[k]? = some x → BlkWF f k x
  slen : f.srcs.length = f.blks.length
  edge : ∀ (k : Nat) (x : FBlk) (t : Int), f.blks[k]? = some x → (x.e = 0 ∧ t = x.a ∨ x.e = 1 ∧ (t = x.a ∨ t = x.b)) → (k : Int) ∈ f.src t.toNat
  qlen : ∀ k, (f.src k).length ≤ 1000
structure RC.WF (C : RC) : Prop where
  fns : ∀ f, f ∈ C.E.fns → f.WF
  nfns : C.E.fns.length ≤ 1000
  mem : C.E.memN ≤ 262144
  fuel : 0 ≤ C.E.fuel ∧ C.E.fuel ≤ 4194304
  inp : C.E.inp.length ≤ 4096
  ic : C.E.inp.length ≤ C.ic
  bytes : ∀ b, b ∈ C.E.inp → 0 ≤ b ∧ b ≤ 255
structure RGood (C : RC) (s : PSt) : Prop where
  mem : s.mem.length = C.E.memN
  n1 : 1 ≤ s.next
  n2 : s.next ≤ C.E.memN
  pos : s.pos ≤ C.E.inp.length
  out : s.out.length ≤ 4096
  s1 : 0 ≤ s.steps
  s2 : s.steps ≤ C.E.fuel
  o1 : 0 ≤ s.opened
  o2 : s.opened ≤ 1200
theorem RGood.step {C : RC} {s : PSt} (h : RGood C s) (hn : ¬ s.steps = C.E.fuel) : RGood C { s with steps := s.steps + 1 } :=
  ⟨h.mem, h.n1, h.n2, h.pos, h.out, by have := h.s1; show 0 ≤ s.steps + 1; omega, by have := h.s2; show s.steps + 1 ≤ _; omega, h.o1, h.o2⟩
theorem RGood.set {C : RC} {s : PSt} (h : RGood C s) (k : Nat) (v : Int) : RGood C { s with mem := s.mem.set k v } := ⟨by show (s.mem.set k v).length = _; rw [List.length_set]; exact h.mem, h.n1, h.n2, h.pos, h.out, h.s1, h.s2, h.o1, h.o2⟩
theorem RGood.take {C : RC} {s : PSt} (h : RGood C s) {n : Int} (h0 : 0 ≤ n) (h1 : n ≤ (C.E.memN : Int) - s.next) : RGood C { s with next := s.next + n } :=
  ⟨h.mem, by have := h.n1; show 1 ≤ s.next + n; omega, by show s.next + n ≤ _; omega, h.pos, h.out, h.s1, h.s2, h.o1, h.o2⟩
theorem RGood.read {C : RC} {s : PSt} (h : RGood C s) (hp : s.pos < C.E.inp.length) : RGood C { s with pos := s.pos + 1 } := ⟨h.mem, h.n1, h.n2, hp, h.out, h.s1, h.s2, h.o1, h.o2⟩
theorem RGood.write {C : RC} {s : PSt} (h : RGood C s) (hp : s.out.length < 4096) (b : Int) : RGood C { s with out := s.out ++ [b] } := ⟨h.mem, h.n1, h.n2, h.pos, by show (s.out ++ [b]).length ≤ _; rw [List.length_append]; exact hp, h.s1, h.s2, h.o1, h.o2⟩
theorem RGood.enter {C : RC} {s : PSt} (h : RGood C s) (hp : ¬ s.opened = 1200) : RGood C { s with opened := s.opened + 1 } := ⟨h.mem, h.n1, h.n2, h.pos, h.out, h.s1, h.s2, by have := h.o1; show 0 ≤ s.opened + 1; omega, by have := h.o2; show s.opened + 1 ≤ _; omega⟩
def RV {α : Type} (C : RC) (S : Nat → Prop) (w : World) (f : α → Value) (g : Got α) (v : Value) (w' : World) : Prop :=
  ∃ x s oA oc, g = .ok x s ∧ v = f x ∧ RGood C s ∧ Mem S w w' (runL C s oA oc)
def RP {α : Type} (C : RC) (S : Nat → Prop) (w : World) (g : Got α) (v : Value) (w' : World) : Prop :=
  ∃ k c s oA oc, g = .stop k c s ∧ v = endV k c ∧ RGood C s ∧ Mem S w w' (runL C s oA oc)
abbrev rS (C : RC) (s : PSt) (oA : Option Addr) (oc : Nat) : Nat → Prop := (Res.pk (runL C s oA oc)).fp
abbrev unitV (_ : Unit) : Value := .tuple #[]
abbrev intV (x : Int) : Value := .int .i64 x
def RCalls {α : Type} (P : Program) (C : RC) (s : PSt) (oA : Option Addr) (oc : Nat) (w : World) (fn : FuncId) (args : List Value) (f : α → Value) (g : Got α) : Prop :=
  Calls P fn args.toArray w (REnds (RV C (rS C s oA oc) w f g) (RP C (rS C s oA oc) w g))
def CallOk (P : Program) (C : RC) (fn : FuncId) (call : Int → List Int → PSt → Got Int) (b : Int) : Prop :=
  ∀ (n : Int) (l : List Int) (bA : Option Addr) (bc : Nat) (s : PSt) (oA : Option Addr) (oc : Nat) (w : World), RGood C s → C.E.fuel - s.steps < b → (Res.pk (runL C s oA oc)).holds w → RO (rS C s oA oc) w C.ro →
    RO (rS C s oA oc) w (.rd bA (ints l)) → l.length ≤ 17 → RCalls P C s oA oc w fn [pT C.r 0, .int .i64 n, .slice bA l.length bc] intV (call n l s)
theorem byte_in {C : RC} (hC : C.WF) {p : Nat} : 0 ≤ C.E.inp.getD p 0 ∧ C.E.inp.getD p 0 ≤ 255 := by
  by_cases h : p < C.E.inp.length
  · have : C.E.inp.getD p 0 = C.E.inp[p] := by simp [List.getD, h]
    rw [this]
    exact hC.bytes _ (List.getElem_mem h)
  · have : C.E.inp.getD p 0 = 0 := by simp [List.getD, h]
    rw [this]
    omega
theorem in_some {w : World} {A : Option Addr} {cap : Nat} {l : List Int} (h : (Res.rd A (u8s l)).holds w) {p : Nat} (hp : p < l.length) (hc : l.length ≤ cap) : ∃ ad, (inAt A cap p).1 = some ad := by
  obtain ⟨ad, hA⟩ := rd_some h (by rw [u8s_len]; omega)
  rw [inAt_at A cap p (by omega), hA]
  exact ⟨_, rfl⟩
theorem in_cell {w : World} {A : Option Addr} {cap : Nat} {l : List Int} (h : (Res.rd A (u8s l)).holds w) {p : Nat} (hp : p < l.length) (hc : l.length ≤ cap) {ad : Addr} (had : (inAt A cap p).1 = some ad) :
    w.cell? (ad.add ((0 : Int).toNat * 1)) = some (.int .u8 (l.getD p 0)) := by
  obtain ⟨ad0, hA⟩ := rd_some h (by rw [u8s_len]; omega)
  rw [inAt_at A cap p (by omega), hA] at had
  injection had with had
  subst had
  have := rd_get h hA (j := p) (v := .int .u8 (l.getD p 0)) (by simp [u8s, List.getD, hp])
  show w.cell? ((ad0.add p).add 0) = _
  rw [addr_add]
  exact this
end Go.Mor
namespace Go.Mor
open Go.RowKit
def VQ (pa va : Int) (fs : List FBlk) : Prop := (∀ x, x ∈ fs → ∀ p, p ∈ x.insts → shapeQ p) ∧ OnceQ pa va (defsF fs)
def ShapesTo (fs : List FBlk) (k : Nat) : Prop := ∀ (i : Nat) (x : FBlk), i < k → fs[i]? = some x → ∀ p, p ∈ x.insts → shapeQ p
def ShapesIn (x : FBlk) (j : Nat) : Prop := ∀ (i : Nat) (p : FIns), i < j → x.insts[i]? = some p → shapeQ p
theorem ShapesTo.next {fs : List FBlk} {k : Nat} {x : FBlk} (h : ShapesTo fs k) (hx : fs[k]? = some x) (hi : ShapesIn x x.insts.length) : ShapesTo fs (k + 1) := by
  intro i y hik hy p hp
  rcases Nat.lt_or_ge i k with h1 | h1
  · exact h i y h1 hy p hp
  · have : i = k := by omega
    subst this
    rw [hx] at hy
    injection hy with hy
    subst hy
    obtain ⟨j, hj⟩ := List.mem_iff_getElem?.1 hp
    exact hi j p (List.getElem?_eq_some_iff.1 hj).1 hj
theorem ShapesIn.next {x : FBlk} {j : Nat} {p : FIns} (h : ShapesIn x j) (hp : x.insts[j]? = some p) (hs : shapeQ p) : ShapesIn x (j + 1) := by
  intro i q hij hq
  rcases Nat.lt_or_ge i j with h1 | h1
  · exact h i q h1 hq
  · have : i = j := by omega
    subst this
    rw [hp] at hq
    injection hq with hq
    exact hq ▸ hs
theorem ShapesTo.all {fs : List FBlk} (h : ShapesTo fs fs.length) : ∀ x, x ∈ fs → ∀ p, p ∈ x.insts → shapeQ p := by
  intro x hx
  obtain ⟨i, hi⟩ := List.mem_iff_getElem?.1 hx
  exact h i x (List.getElem?_eq_some_iff.1 hi).1 hi
theorem defsTo_pre {fs : List FBlk} (k : Nat) : ∀ n, k ≤ n → n ≤ fs.length → ∃ es, defsTo fs n = defsTo fs k ++ es := by
  intro n
  induction n with
  | zero => intro h _; exact ⟨[], by rw [Nat.le_zero.1 h]; simp⟩
  | succ n ih =>
    intro h hn
    rcases Nat.lt_or_ge n k with h1 | h1
    · have : k = n + 1 := by omega
      subst this
      exact ⟨[], by simp⟩
    · obtain ⟨es, he⟩ := ih h1 (by omega)
      obtain ⟨x, hx⟩ := get_of (l := fs) (i := n) (by omega)
      exact ⟨es ++ blkDefs n x, by rw [defsTo_succ hx, he, List.append_assoc]⟩
theorem phi_pre (b : Int) (l : List FPhi) (j : Nat) : ∃ es, phiDefs b l = phiDefs b (l.take j) ++ es :=
  ⟨phiDefs b (l.drop j), by unfold phiDefs; rw [← List.map_append, List.take_append_drop]⟩
theorem ins_pre (b : Int) (l : List FIns) (j : Nat) : ∃ es, insDefs b l = insDefs b (l.take j) ++ es := by
  have e : l.zipIdx = (l.take j).zipIdx ++ (l.drop j).zipIdx (0 + (l.take j).length) := by
    rw [← List.zipIdx_append, List.take_append_drop]
  refine ⟨(((l.drop j).zipIdx (0 + (l.take j).length)).filter (fun x => decide (makesQ x.1.op))).map (fun x => (x.1.dst, b, (x.2 : Int))), ?_⟩
  unfold insDefs
  rw [e, List.filter_append, List.map_append]
theorem once_phi {fs : List FBlk} {pa va : Int} {k : Nat} {x : FBlk} (hx : fs[k]? = some x) (j : Nat) (h : OnceQ pa va (defsF fs)) : OnceQ pa va (defsTo fs k ++ phiDefs k (x.phis.take j)) := by
  have hk := (List.getElem?_eq_some_iff.1 hx).1
  obtain ⟨es, he⟩ := defsTo_pre (fs := fs) (k + 1) fs.length hk (Nat.le_refl _)
  obtain ⟨e2, h2⟩ := phi_pre k x.phis j
  have : defsF fs = (defsTo fs k ++ phiDefs k (x.phis.take j)) ++ (e2 ++ insDefs k x.insts ++ es) := by
    unfold defsF
    rw [he, defsTo_succ hx, blkDefs, h2]
    simp only [List.append_assoc]
  rw [this] at h
  exact h.pre
theorem once_ins {fs : List FBlk} {pa va : Int} {k : Nat} {x : FBlk} (hx : fs[k]? = some x) (j : Nat) (h : OnceQ pa va (defsF fs)) : OnceQ pa va (defsTo fs k ++ phiDefs k x.phis ++ insDefs k (x.insts.take j)) := by
  have hk := (List.getElem?_eq_some_iff.1 hx).1
  obtain ⟨es, he⟩ := defsTo_pre (fs := fs) (k + 1) fs.length hk (Nat.le_refl _)
  obtain ⟨e2, h2⟩ := ins_pre k x.insts j
  have : defsF fs = (defsTo fs k ++ phiDefs k x.phis ++ insDefs k (x.insts.take j)) ++ (e2 ++ es) := by
    unfold defsF
    rw [he, defsTo_succ hx, blkDefs, h2]
    simp only [List.append_assoc]
  rw [this] at h
  exact h.pre
structure Enc (lo pa : Int) (n : Nat) (base : Nat → Int × Int) (enc : Int × Int → Int × Int) : Prop where
  base : ∀ v : Nat, v < n → lo ≤ (v : Int) → ((base v).1 < 0 ↔ pa ≤ (v : Int))
  enc : ∀ p, 0 ≤ p.1 → 0 ≤ (enc p).1
def NonNeg (ds : Dfs) : Prop := ∀ d, d ∈ ds → 0 ≤ d.2.1
theorem tab_putQ {pa lo hi : Int} {n : Nat} {base : Nat → Int × Int} {enc : Int × Int → Int × Int} {ds : Dfs} {l : List (Int × Int)} (h : Tab n base enc ds l) (he : Enc lo pa n base enc) (hd : NonNeg ds) (h0 : 0 ≤ lo) (h1 : lo ≤ pa) (hn : hi = (n : Int)) (v : Int) : putQ lo hi l v ↔ (pa ≤ v ∧ v < hi) ∧ v ∉ ds.map (·.1) := by
  unfold putQ
  constructor
  · rintro ⟨⟨a, b⟩, c⟩
    have hv : l[v.toNat]? = some (match findD ds ((v.toNat : Nat) : Int) with | some p => enc p | none => base v.toNat) := h.at_ v.toNat (by omega)
    have ev : ((v.toNat : Nat) : Int) = v := by omega
    rw [ev] at hv
    have hg : l.getD v.toNat (0, 0) = (match findD ds v with | some p => enc p | none => base v.toNat) := by simp [List.getD, hv]
    rw [hg] at c
    by_cases hm : v ∈ ds.map (·.1)
    · obtain ⟨p, hp, hmem⟩ := findD_some hm
      rw [hp] at c
      have := he.enc p (hd _ hmem)
      simp only at c
      omega
    · rw [findD_none hm] at c
      have := (he.base v.toNat (by omega) (by omega)).1 c
      exact ⟨⟨by omega, b⟩, hm⟩
  · rintro ⟨⟨a, b⟩, hm⟩
    have hv : l[v.toNat]? = some (match findD ds ((v.toNat : Nat) : Int) with | some p => enc p | none => base v.toNat) := h.at_ v.toNat (by omega)
    have ev : ((v.toNat : Nat) : Int) = v := by omega
    rw [ev, findD_none hm] at hv
    have hg : l.getD v.toNat (0, 0) = base v.toNat := by simp [List.getD, hv]
    rw [hg]
    exact ⟨⟨by omega, b⟩, (he.base v.toNat (by omega) (by omega)).2 (by omega)⟩
theorem nonneg_phi (fs : List FBlk) (k j : Nat) (l : List FPhi) : NonNeg (defsTo fs k ++ phiDefs k (l.take j)) := by
  intro d hd
  rcases List.mem_append.1 hd with hd | hd
  · exact (defs_mem hd).1
  · unfold phiDefs at hd
    obtain ⟨p, _, rfl⟩ := List.mem_map.1 hd
    exact Int.natCast_nonneg _
theorem nonneg_ins (fs : List FBlk) (k j : Nat) (l : List FPhi) (m : List FIns) : NonNeg (defsTo fs k ++ phiDefs k l ++ insDefs k (m.take j)) := by
  intro d hd
  rcases List.mem_append.1 hd with hd | hd
  · have := nonneg_phi fs k l.length l d (by rw [List.take_length]; exact hd)
    exact this
  · unfold insDefs at hd
    obtain ⟨p, _, rfl⟩ := List.mem_map.1 hd
    exact Int.natCast_nonneg _
theorem once_step {pa lo hi : Int} {n : Nat} {base : Nat → Int × Int} {enc : Int × Int → Int × Int} {ds : Dfs} {l : List (Int × Int)} (h : Tab n base enc ds l) (he : Enc lo pa n base enc) (hd : NonNeg ds) (h0 : 0 ≤ lo) (h1 : lo ≤ pa) (hn : hi = (n : Int)) (ho : OnceQ pa hi ds) (v b k : Int) :
    (putQ lo hi l v → Tab n base enc (ds ++ [(v, b, k)]) (l.set v.toNat (enc (b, k))) ∧ OnceQ pa hi (ds ++ [(v, b, k)])) ∧ (¬ putQ lo hi l v → ¬ OnceQ pa hi (ds ++ [(v, b, k)])) := by
  have key := tab_putQ h he hd h0 h1 hn v
  constructor
  · intro hp
    obtain ⟨h2, h3⟩ := key.1 hp
    exact ⟨h.put (by omega) (by omega) h3, OnceQ.snoc.2 ⟨ho, h2, h3⟩⟩
  · intro hp hq
    obtain ⟨_, h2, h3⟩ := OnceQ.snoc.1 hq
    exact hp (key.2 ⟨h2, h3⟩)
def fillM (n k : Nat) : List (Int × Int) := List.replicate k (-1, 0) ++ List.replicate (n - k) (0, 0)
theorem fillM_zero (n : Nat) : fillM n 0 = List.replicate n (0, 0) := by simp [fillM]
theorem fillM_get {n k : Nat} (h : k < n) : (fillM n k)[k]? = some (0, 0) := by
  unfold fillM
  rw [List.getElem?_append_right (by simp), List.length_replicate, Nat.sub_self, show n - k = (n - (k + 1)) + 1 by omega]
  rfl
theorem fillM_next {n k : Nat} (h : k < n) : (fillM n k).set k (-1, 0) = fillM n (k + 1) := by
  unfold fillM
  rw [List.set_append_right _ _ (by simp), List.replicate_succ', List.append_assoc]
  congr 1
  rw [List.length_replicate, Nat.sub_self, show n - k = (n - (k + 1)) + 1 by omega, List.replicate_succ]
  rfl
theorem fillM_end (n : Nat) : Tab n (fun _ => (-1, 0)) (fun p => (p.1, p.2 + 1)) [] (fillM n n) where
  len := by simp [fillM]
  at_ := fun v hv => by
    have : findD [] (v : Int) = none := rfl
    rw [this]
    simp [fillM, hv]
theorem enc_ssa (pa : Int) (n : Nat) : Enc pa pa n (fun _ => (-1, 0)) (fun p => (p.1, p.2 + 1)) :=
  ⟨fun _ _ h => ⟨fun _ => h, fun _ => by decide⟩, fun p h => h⟩
end Go.Mor
namespace Go.Mor
open Go.RowKit
end Go.Mor
namespace Go.Mor
open Go.RowKit
abbrev DSt := (Int → Bool) × List Int
def addS (S : Int → Bool) (t : Int) : Int → Bool := fun x => (x == t) || S x
inductive Kids (T : Int → List Int) : List Int → DSt → DSt → Prop where
  | nil {s} : Kids T [] s s
  | skip {t ts S o s'} : S t = true → Kids T ts (S, o) s' → Kids T (t :: ts) (S, o) s'
  | go {t ts S o s1 s'} : S t = false → Kids T (T t) (addS S t, o) s1 → Kids T ts (s1.1, s1.2 ++ [t]) s' → Kids T (t :: ts) (S, o) s'
theorem Kids.mono {T : Int → List Int} {ts : List Int} {s s' : DSt} (h : Kids T ts s s') : ∀ x, s.1 x = true → s'.1 x = true := by
  induction h with
  | nil => exact fun _ h => h
  | skip _ _ ih => exact ih
  | go _ _ _ ih1 ih2 => exact fun x hx => ih2 x (ih1 x (by have hx' := hx; simp only at hx'; simp [addS, hx']))
def kidsF (T : Int → List Int) : Nat → List Int → DSt → DSt
  | 0, _, s => s
  | _ + 1, [], s => s
  | f + 1, t :: ts, s => match s.1 t with
    | true => kidsF T f ts s
    | false => kidsF T f ts ((kidsF T f (T t) (addS s.1 t, s.2)).1, (kidsF T f (T t) (addS s.1 t, s.2)).2 ++ [t])
def unmet (n : Nat) (S : Int → Bool) : Nat := ((List.range n).filter (fun i : Nat => !S (i : Int))).length
theorem unmet_mono {n : Nat} {S S' : Int → Bool} (h : ∀ x, S x = true → S' x = true) : unmet n S' ≤ unmet n S := by
  unfold unmet
  refine List.Sublist.length_le ?_
  have : (List.range n).filter (fun i : Nat => !S' (i : Int)) = ((List.range n).filter (fun i : Nat => !S (i : Int))).filter (fun i : Nat => !S' (i : Int)) := by
    rw [List.filter_filter]
    apply List.filter_congr
    intro i _
    cases h1 : S (i : Int) <;> cases h2 : S' (i : Int) <;> simp
    rw [h _ h1] at h2
    cases h2
  rw [this]
  exact List.filter_sublist
theorem unmet_add {n : Nat} {S : Int → Bool} {t : Int} (h0 : 0 ≤ t) (h1 : t < n) (hS : S t = false) : unmet n (addS S t) + 1 ≤ unmet n S := by
  unfold unmet
  have hsub : (List.range n).filter (fun i : Nat => !addS S t (i : Int)) = ((List.range n).filter (fun i : Nat => !S (i : Int))).filter (fun i : Nat => !((i : Int) == t)) := by
    rw [List.filter_filter]
    apply List.filter_congr
    intro i _
    simp [addS]
  rw [hsub]
  obtain ⟨k, rfl⟩ := Int.eq_ofNat_of_zero_le h0
  have hmem : k ∈ (List.range n).filter (fun i : Nat => !S (i : Int)) := List.mem_filter.2 ⟨List.mem_range.2 (by omega), by rw [hS]; rfl⟩
  have := List.length_filter_lt_length_iff_exists (p := fun i : Nat => !((i : Int) == (k : Int))) |>.2 ⟨k, hmem, by simp⟩
  omega
theorem unmet_le (n : Nat) (S : Int → Bool) : unmet n S ≤ n := by
  unfold unmet
  exact Nat.le_trans (List.length_filter_le _ _) (by simp)
theorem kids_total {T : Int → List Int} {n : Nat} (hT : ∀ t, (T t).length ≤ 2) (hR : ∀ t x, x ∈ T t → 0 ≤ x ∧ x < n) : ∀ (f : Nat) (ts : List Int) (s : DSt), (∀ x, x ∈ ts → 0 ≤ x ∧ x < n) → 3 * unmet n s.1 + ts.length + 1 ≤ f →
    Kids T ts s (kidsF T f ts s) := by
  intro f
  induction f with
  | zero => intro ts s _ h; omega
  | succ f ih =>
    intro ts s hts hf
    obtain ⟨S, o⟩ := s
    cases ts with
    | nil => exact .nil
    | cons t ts =>
      have ht := hts t (List.mem_cons_self ..)
      have hts' : ∀ x, x ∈ ts → 0 ≤ x ∧ x < (n : Int) := fun x hx => hts x (List.mem_cons_of_mem _ hx)
      simp only [List.length_cons] at hf
      cases hS : S t with
      | true =>
        have : kidsF T (f + 1) (t :: ts) (S, o) = kidsF T f ts (S, o) := by simp only [kidsF, hS]
        rw [this]
        exact .skip hS (ih ts (S, o) hts' (by simp only at hf ⊢; omega))
      | false =>
        have e : kidsF T (f + 1) (t :: ts) (S, o) = kidsF T f ts ((kidsF T f (T t) (addS S t, o)).1, (kidsF T f (T t) (addS S t, o)).2 ++ [t]) := by simp only [kidsF, hS]
        rw [e]
        have hu := unmet_add (S := S) ht.1 ht.2 hS
        have h1 := ih (T t) (addS S t, o) (hR t) (by have := hT t; simp only at hf ⊢; omega)
        refine .go hS h1 (ih ts _ hts' ?_)
        have hm := unmet_mono (n := n) (Kids.mono h1)
        simp only at hf hm ⊢
        omega
theorem Kids.count {T : Int → List Int} {n : Nat} (hR : ∀ t x, x ∈ T t → 0 ≤ x ∧ x < n) {ts : List Int} {s s' : DSt} (h : Kids T ts s s') (hts : ∀ x, x ∈ ts → 0 ≤ x ∧ x < (n : Int)) :
    s'.2.length + unmet n s'.1 ≤ s.2.length + unmet n s.1 := by
  induction h with
  | nil => exact Nat.le_refl _
  | skip _ _ ih => exact ih (fun x hx => hts x (List.mem_cons_of_mem _ hx))
  | @go t ts S o s1 s' hS _ _ ih1 ih2 =>
    have ht := hts t (List.mem_cons_self ..)
    have h1 := ih1 (hR t)
    have h2 := ih2 (fun x hx => hts x (List.mem_cons_of_mem _ hx))
    have h3 := unmet_add (S := S) ht.1 ht.2 hS
    simp only [List.length_append, List.length_cons, List.length_nil] at h1 h2 ⊢
    omega
def leftL (bs : List SB) : List Int := (kidsF (tg bs) (3 * bs.length + 3) (tg bs 0) (addS (fun _ => false) 0, [])).2 ++ [0]
def orderL (bs : List SB) : List Int := if bs.length = 0 then [] else (leftL bs).reverse
theorem left_kids (bs : List SB) : ∃ s, Kids (tg bs) (tg bs 0) (addS (fun _ => false) 0, []) s ∧ s.2 ++ [0] = leftL bs := by
  refine ⟨_, kids_total (n := bs.length) (fun t => tg_len bs t) (fun t x h => tg_mem h) (3 * bs.length + 3) _ _ (fun x h => tg_mem h) ?_, rfl⟩
  have h1 := tg_len bs 0
  have h2 := unmet_le bs.length (addS (fun _ => false) 0)
  simp only
  by_cases h : bs.length = 0
  · have : tg bs 0 = [] := tg_out (by omega)
    rw [this]
    simp
    omega
  · have := unmet_add (n := bs.length) (S := fun _ => false) (t := 0) (by omega) (by omega) rfl
    have h3 := unmet_le bs.length (fun _ => false)
    omega
theorem leftL_len {bs : List SB} (h : 0 < bs.length) : (leftL bs).length ≤ bs.length := by
  obtain ⟨s, h1, h2⟩ := left_kids bs
  have h3 := Kids.count (n := bs.length) (fun t x h => tg_mem h) h1 (fun x h => tg_mem h)
  have h4 := unmet_add (n := bs.length) (S := fun _ => false) (t := 0) (by omega) (by omega) rfl
  have h5 := unmet_le bs.length (fun _ => false)
  rw [← h2, List.length_append]
  simp only [List.length_nil, List.length_cons] at h3 ⊢
  omega
def Fin_ (T : Int → List Int) : List (Int × Nat) → DSt → List Int → Prop
  | [], s, R => s.2 = R
  | (b, k) :: rest, s, R => ∃ s', Kids T ((T b).drop k) s s' ∧ Fin_ T rest (s'.1, s'.2 ++ [b]) R
theorem fin_pop {T : Int → List Int} {b : Int} {k : Nat} {rest : List (Int × Nat)} {s : DSt} {R : List Int} (h : Fin_ T ((b, k) :: rest) s R) (hk : (T b).length ≤ k) : Fin_ T rest (s.1, s.2 ++ [b]) R := by
  obtain ⟨s', h1, h2⟩ := h
  rw [List.drop_of_length_le hk] at h1
  cases h1
  exact h2
theorem fin_skip {T : Int → List Int} {b t : Int} {k : Nat} {rest : List (Int × Nat)} {S : Int → Bool} {o : List Int} {R : List Int} (h : Fin_ T ((b, k) :: rest) (S, o) R) (hk : (T b)[k]? = some t) (ht : S t = true) : Fin_ T ((b, k + 1) :: rest) (S, o) R := by
  obtain ⟨s', h1, h2⟩ := h
  obtain ⟨hlt, he⟩ := List.getElem?_eq_some_iff.1 hk
  rw [List.drop_eq_getElem_cons hlt, he] at h1
  cases h1 with
  | skip _ h1 => exact ⟨s', h1, h2⟩
  | go h' _ _ => rw [ht] at h'; cases h'
theorem fin_push {T : Int → List Int} {b t : Int} {k : Nat} {rest : List (Int × Nat)} {S : Int → Bool} {o : List Int} {R : List Int} (h : Fin_ T ((b, k) :: rest) (S, o) R) (hk : (T b)[k]? = some t) (ht : S t = false) :
    Fin_ T ((t, 0) :: (b, k + 1) :: rest) (addS S t, o) R := by
  obtain ⟨s', h1, h2⟩ := h
  obtain ⟨hlt, he⟩ := List.getElem?_eq_some_iff.1 hk
  rw [List.drop_eq_getElem_cons hlt, he] at h1
  cases h1 with
  | skip h' _ => rw [ht] at h'; cases h'
  | go _ ha hb => exact ⟨_, by simpa using ha, ⟨s', hb, h2⟩⟩
def BoolsOf (n : Nat) (l : List Bool) (S : Int → Bool) : Prop := l.length = n ∧ ∀ i : Nat, i < n → l.getD i false = S (i : Int)
theorem BoolsOf.put {n : Nat} {l : List Bool} {S : Int → Bool} (h : BoolsOf n l S) {i : Nat} (_hi : i < n) : BoolsOf n (l.set i true) (addS S (i : Int)) := by
  refine ⟨by simp [h.1], fun j hj => ?_⟩
  unfold addS
  by_cases e : i = j
  · subst e
    have : i < l.length := by rw [h.1]; exact hj
    simp [List.getD, this]
  · have e2 : ¬ ((j : Int) = (i : Int)) := by omega
    rw [← h.2 j hj]
    simp [List.getD, List.getElem?_set_ne e, e2]
def stepC (p : Int × Nat) : List Value := [.int .i64 p.1, .int .i64 (p.2 : Int)]
def stkC (st : List (Int × Nat)) : List Value := st.reverse.flatMap stepC
theorem stkC_cons (p : Int × Nat) (st : List (Int × Nat)) : stkC (p :: st) = stkC st ++ stepC p := by simp [stkC]
theorem stkC_len (st : List (Int × Nat)) : (stkC st).length = st.length * 2 := by
  induction st with
  | nil => rfl
  | cons p st ih => rw [stkC_cons, List.length_append, ih]; simp [stepC]; omega
theorem stk_top {b : Int} {k : Nat} {st : List (Int × Nat)} : (stkC ((b, k) :: st))[st.length * 2]? = some (.int .i64 b) ∧ (stkC ((b, k) :: st))[st.length * 2 + 1]? = some (.int .i64 (k : Int)) := by
  rw [stkC_cons, ← stkC_len]
  constructor
  · rw [List.getElem?_append_right (Nat.le_refl _)]; simp [stepC]
  · rw [List.getElem?_append_right (by omega)]; simp [stepC]
theorem stk_pop {b : Int} {k : Nat} {st : List (Int × Nat)} : (stkC ((b, k) :: st)).take (st.length * 2) = stkC st := by
  rw [stkC_cons, ← stkC_len, List.take_left]
theorem stk_inc {b : Int} {k : Nat} {st : List (Int × Nat)} : (stkC ((b, k) :: st)).set (st.length * 2 + 1) (.int .i64 ((k : Int) + 1)) = stkC ((b, k + 1) :: st) := by
  rw [stkC_cons, stkC_cons, ← stkC_len, List.set_append_right _ _ (by omega)]
  simp [stepC]
structure Met (n : Nat) (ws : List Nat) (S : Int → Bool) : Prop where
  len : ws.length = (n + 63) / 64
  fit : Fit ws
  bits : ∀ i : Nat, i < n → tb ws i = S (i : Int)
theorem Met.start (n : Nat) : Met n (List.replicate ((n + 63) / 64) 0) (fun _ => false) := ⟨by simp, Fit.zero _, fun i _ => tb_zero _ i⟩
theorem Met.put {n : Nat} {ws : List Nat} {S : Int → Bool} (h : Met n ws S) {i : Nat} (hi : i < n) : Met n (putw ws i) (addS S (i : Int)) := by
  refine ⟨by simp [putw, h.len], h.fit.put i, fun j hj => ?_⟩
  rw [tb_put (by rw [h.len]; omega), h.bits j hj]
  unfold addS
  congr 1
  by_cases e : i = j
  · subst e; simp
  · have : ¬ ((j : Int) = (i : Int)) := by omega
    simp [e, this]
theorem Met.idx {n : Nat} {ws : List Nat} {S : Int → Bool} (h : Met n ws S) {i : Nat} (hi : i < n) : i / 64 < ws.length := by rw [h.len]; omega
def wsum (T : Int → List Int) : List (Int × Nat) → Nat
  | [] => 0
  | (b, k) :: r => ((T b).length - k + 1) + wsum T r
def WayOk (T : Int → List Int) (st : List (Int × Nat)) : Prop := ∀ p, p ∈ st → p.2 ≤ (T p.1).length
theorem way_one (T : Int → List Int) (b : Int) : WayOk T [(b, 0)] := by
  intro p hp
  simp only [List.mem_singleton] at hp
  subst hp
  exact Nat.zero_le _
theorem way_push {T : Int → List Int} {b t : Int} {k : Nat} {r : List (Int × Nat)} (h : WayOk T ((b, k) :: r)) (hk : k + 1 ≤ (T b).length) : WayOk T ((t, 0) :: (b, k + 1) :: r) := by
  intro p hp
  rcases List.mem_cons.1 hp with rfl | hp
  · exact Nat.zero_le _
  · rcases List.mem_cons.1 hp with rfl | hp
    · exact hk
    · exact h p (List.mem_cons_of_mem _ hp)
theorem way_inc {T : Int → List Int} {b : Int} {k : Nat} {r : List (Int × Nat)} (h : WayOk T ((b, k) :: r)) (hk : k + 1 ≤ (T b).length) : WayOk T ((b, k + 1) :: r) := by
  intro p hp
  rcases List.mem_cons.1 hp with rfl | hp
  · exact hk
  · exact h p (List.mem_cons_of_mem _ hp)
theorem tg_at {bs : List SB} {b : Int} {k : Nat} (h : k < (tg bs b).length) : ∃ ti : Nat, (tg bs b)[k]? = some (ti : Int) ∧ ti < bs.length := by
  have h1 := tg_mem (List.getElem_mem h)
  obtain ⟨ti, he⟩ := Int.eq_ofNat_of_zero_le h1.1
  exact ⟨ti, by rw [List.getElem?_eq_getElem h, he], by omega⟩
def Swapped (l m : List Int) (k : Nat) : Prop := m.length = l.length ∧ ∀ p, p < l.length → m.getD p 0 = if p < k ∨ l.length ≤ p + k then l.getD (l.length - 1 - p) 0 else l.getD p 0
theorem swapped_start (l : List Int) : Swapped l l 0 := ⟨rfl, fun p hp => by rw [if_neg (by omega)]⟩
theorem getD_set {m : List Int} {i p : Nat} {v : Int} (hi : i < m.length) : (m.set i v).getD p 0 = if i = p then v else m.getD p 0 := by
  by_cases h : i = p
  · subst h; simp [List.getD, hi]
  · simp [List.getD, List.getElem?_set_ne h, h]
theorem swapped_next {l m : List Int} {k q : Nat} (h : Swapped l m k) (hq : k < q ∧ q + k + 1 = l.length) : Swapped l ((m.set k (m.getD q 0)).set q (m.getD k 0)) (k + 1) := by
  obtain ⟨h1, h2⟩ := h
  refine ⟨by simp [h1], fun p hp => ?_⟩
  rw [getD_set (by simp; omega), getD_set (by omega)]
  by_cases e1 : q = p
  · subst e1
    rw [if_pos rfl, if_pos (by omega), h2 k (by omega), if_neg (by omega), show l.length - 1 - q = k by omega]
  · rw [if_neg e1]
    by_cases e2 : k = p
    · subst e2
      rw [if_pos rfl, if_pos (by omega), h2 q (by omega), if_neg (by omega), show l.length - 1 - k = q by omega]
    · rw [if_neg e2, h2 p hp]
      by_cases e3 : p < k ∨ l.length ≤ p + k
      · rw [if_pos e3, if_pos (by omega)]
      · rw [if_neg e3, if_neg (by omega)]
theorem swapped_end {l m : List Int} {k : Nat} (h : Swapped l m k) (hk : 2 * k ≤ l.length ∧ l.length ≤ 2 * k + 1) : m = l.reverse := by
  obtain ⟨h1, h2⟩ := h
  apply List.ext_getElem?
  intro p
  by_cases hp : p < l.length
  · have h3 := h2 p hp
    have e : ∀ x : List Int, p < x.length → x[p]? = some (x.getD p 0) := by
      intro x hx
      simp [List.getD, hx]
    rw [e m (by omega), e l.reverse (by simpa using hp), h3]
    have e4 : l.reverse.getD p 0 = l.getD (l.length - 1 - p) 0 := by
      simp [List.getD, List.getElem?_reverse hp]
    rw [e4]
    split
    · rfl
    · rw [show l.length - 1 - p = p by omega]
  · rw [List.getElem?_eq_none (by omega), List.getElem?_eq_none (by simp; omega)]
end Go.Mor
namespace Go.Mor
open Go.RowKit
inductive Reach (T : Int → List Int) : Int → Prop
  | zero : Reach T 0
  | step {x t : Int} : Reach T x → t ∈ T x → Reach T t
def tgb (T : Int → List Int) (bar : Int) (x : Int) : List Int := (T x).filter (fun t => !(t == bar))
theorem mem_tgb {T : Int → List Int} {bar x t : Int} : t ∈ tgb T bar x ↔ t ∈ T x ∧ t ≠ bar := by simp [tgb]
theorem tgb_len {T : Int → List Int} (hT : ∀ t, (T t).length ≤ 2) (bar : Int) (t : Int) : (tgb T bar t).length ≤ 2 := Nat.le_trans (List.length_filter_le _ _) (hT t)
theorem kids_closed {T : Int → List Int} {ts : List Int} {s s' : DSt} (h : Go.Mor.Kids T ts s s') :
    (∀ x, x ∈ ts → s'.1 x = true) ∧ (∀ x, s'.1 x = true → s.1 x = true ∨ ∀ t, t ∈ T x → s'.1 t = true) := by
  induction h with
  | nil => exact ⟨fun x hx => (List.not_mem_nil hx).elim, fun x hx => .inl hx⟩
  | @skip t ts S o s' hS h ih =>
    refine ⟨fun x hx => ?_, ih.2⟩
    rcases List.mem_cons.1 hx with rfl | hx
    · exact Kids.mono h _ hS
    · exact ih.1 x hx
  | @go t ts S o s1 s' hS h1 h2 ih1 ih2 =>
    have m1 := Kids.mono h1
    have m2 := Kids.mono h2
    have ht : s1.1 t = true := m1 t (by simp [addS])
    refine ⟨fun x hx => ?_, fun x hx => ?_⟩
    · rcases List.mem_cons.1 hx with rfl | hx
      · exact m2 _ ht
      · exact ih2.1 x hx
    · rcases ih2.2 x hx with hx | hx
      · rcases ih1.2 x hx with hx | hx
        · by_cases e : x = t
          · subst e
            exact .inr fun y hy => m2 y (ih1.1 y hy)
          · left
            have : (x == t || S x) = true := hx
            simpa [e] using this
        · exact .inr fun y hy => m2 y (hx y hy)
      · exact .inr hx
theorem kids_reach {T : Int → List Int} {ts : List Int} {s s' : DSt} (h : Go.Mor.Kids T ts s s') (hts : ∀ x, x ∈ ts → Reach T x) (hs : ∀ x, s.1 x = true → Reach T x) : ∀ x, s'.1 x = true → Reach T x := by
  induction h with
  | nil => exact hs
  | skip _ _ ih => exact ih (fun x hx => hts x (List.mem_cons_of_mem _ hx)) hs
  | @go t ts S o s1 s' hS h1 h2 ih1 ih2 =>
    have ht := hts t (List.mem_cons_self ..)
    refine ih2 (fun x hx => hts x (List.mem_cons_of_mem _ hx)) (ih1 (fun x hx => .step ht hx) (fun x hx => ?_))
    have hx : (x == t || S x) = true := hx
    by_cases e : x = t
    · exact e ▸ ht
    · exact hs x (by simpa [e] using hx)
theorem kids_new {T : Int → List Int} {ts : List Int} {s s' : DSt} (h : Go.Mor.Kids T ts s s') : ∃ nw, s'.2 = s.2 ++ nw ∧ (∀ x, s'.1 x = true ↔ s.1 x = true ∨ x ∈ nw) ∧ nw.Nodup ∧ (∀ x, x ∈ nw → s.1 x = false) ∧
    (∀ l1 x l2, nw = l1 ++ x :: l2 → x ∈ ts ∨ ∃ y, y ∈ l2 ∧ x ∈ T y) := by
  induction h with
  | nil => exact ⟨[], by simp, by simp, by simp, by simp, by simp⟩
  | @skip t ts S o s' hS h ih =>
    obtain ⟨nw, h1, h2, h3, h4, h5⟩ := ih
    exact ⟨nw, h1, h2, h3, h4, fun l1 x l2 e => (h5 l1 x l2 e).imp (fun h => List.mem_cons_of_mem _ h) id⟩
  | @go t ts S o s1 s' hS h1 h2 ih1 ih2 =>
    obtain ⟨n1, a1, a2, a3, a4, a5⟩ := ih1
    obtain ⟨n2, b1, b2, b3, b4, b5⟩ := ih2
    have a2' : ∀ x, s1.1 x = true ↔ (S x = true ∨ x = t) ∨ x ∈ n1 := by
      intro x
      rw [a2 x]
      have : (addS S t x = true) ↔ (S x = true ∨ x = t) := by simp [addS, or_comm]
      exact or_congr this Iff.rfl
    have b4' : ∀ x, x ∈ n2 → S x = false ∧ x ≠ t ∧ x ∉ n1 := by
      intro x hx
      have h0 : s1.1 x = false := b4 x hx
      have : ¬ s1.1 x = true := by rw [h0]; simp
      rw [a2' x] at this
      refine ⟨by simpa using fun h => this (.inl (.inl h)), fun h => this (.inl (.inr h)), fun h => this (.inr h)⟩
    have a4' : ∀ x, x ∈ n1 → S x = false ∧ x ≠ t := by
      intro x hx
      have h0 := a4 x hx
      have : ¬ (addS S t x = true) := by
        have h0 : addS S t x = false := h0
        rw [h0]; simp
      have h3 : ¬ (x = t ∨ S x = true) := by simpa [addS] using this
      exact ⟨by simpa using fun h => h3 (.inr h), fun h => h3 (.inl h)⟩
    refine ⟨n1 ++ t :: n2, ?_, ?_, ?_, ?_, ?_⟩
    · rw [b1]
      simp only [a1]
      simp
    · intro x
      rw [b2 x]
      have := a2' x
      simp only [this, List.mem_append, List.mem_cons]
      constructor
      · rintro (((h | h) | h) | h)
        · exact .inl h
        · exact .inr (.inr (.inl h))
        · exact .inr (.inl h)
        · exact .inr (.inr (.inr h))
      · rintro (h | h | h | h)
        · exact .inl (.inl (.inl h))
        · exact .inl (.inr h)
        · exact .inl (.inl (.inr h))
        · exact .inr h
    · rw [List.nodup_append]
      refine ⟨a3, List.nodup_cons.2 ⟨fun h => (b4' t h).2.1 rfl, b3⟩, fun x hx y hy => ?_⟩
      rcases List.mem_cons.1 hy with rfl | hy
      · exact (a4' x hx).2
      · rintro rfl
        exact (b4' x hy).2.2 hx
    · intro x hx
      rcases List.mem_append.1 hx with hx | hx
      · exact (a4' x hx).1
      · rcases List.mem_cons.1 hx with rfl | hx
        · exact hS
        · exact (b4' x hx).1
    · intro l1 x l2 e
      rcases List.append_eq_append_iff.1 e with ⟨p, e1, e2⟩ | ⟨p, e1, e2⟩
      · -- x behind n1
        cases p with
        | nil =>
          simp only [List.nil_append, List.cons.injEq] at e2
          exact .inl (by rw [← e2.1]; exact List.mem_cons_self ..)
        | cons q p =>
          simp only [List.cons_append, List.cons.injEq] at e2
          rcases b5 p x l2 e2.2 with h | ⟨y, hy, h⟩
          · exact .inl (List.mem_cons_of_mem _ h)
          · exact .inr ⟨y, hy, h⟩
      · cases p with
        | nil =>
          simp only [List.nil_append, List.cons.injEq] at e2
          exact .inl (by rw [e2.1]; exact List.mem_cons_self ..)
        | cons q p =>
          simp only [List.cons_append, List.cons.injEq] at e2
          obtain ⟨rfl, e2⟩ := e2
          right
          rcases a5 l1 x p e1 with h | ⟨y, hy, h⟩
          · exact ⟨t, by rw [e2]; simp, h⟩
          · exact ⟨y, by rw [e2]; simp [hy], h⟩
def metF (T : Int → List Int) (n : Nat) : Int → Bool := (kidsF T (3 * n + 3) (T 0) (addS (fun _ => false) 0, [])).1
theorem met_kids {T : Int → List Int} {n : Nat} (hT : ∀ t, (T t).length ≤ 2) (hR : ∀ t x, x ∈ T t → 0 ≤ x ∧ x < n) : ∃ s, Go.Mor.Kids T (T 0) (addS (fun _ => false) 0, []) s ∧ s.1 = metF T n := by
  refine ⟨_, kids_total (n := n) hT hR (3 * n + 3) _ _ (fun x h => hR 0 x h) ?_, rfl⟩
  have h1 := hT 0
  have h2 := unmet_le n (addS (fun _ => false) 0)
  simp only
  by_cases h : n = 0
  · have : T 0 = [] := by
      cases h3 : T 0 with
      | nil => rfl
      | cons x l => have := hR 0 x (by rw [h3]; exact List.mem_cons_self ..); omega
    rw [this]
    simp
    omega
  · have := unmet_add (n := n) (S := fun _ => false) (t := 0) (by omega) (by omega) rfl
    have h3 := unmet_le n (fun _ => false)
    omega
theorem kids_zero {T : Int → List Int} {s : DSt} (h : Go.Mor.Kids T (T 0) (addS (fun _ => false) 0, []) s) (x : Int) : s.1 x = true ↔ Reach T x := by
  constructor
  · refine kids_reach h (fun x hx => .step .zero hx) (fun x hx => ?_) x
    have : x = 0 := by simpa [addS] using hx
    exact this ▸ .zero
  · obtain ⟨c1, c2⟩ := kids_closed h
    have h0 : s.1 0 = true := Kids.mono h 0 (by simp [addS])
    intro hr
    induction hr with
    | zero => exact h0
    | @step x t _ ht ih =>
      rcases c2 x ih with hx | hx
      · have : x = 0 := by simpa [addS] using hx
        exact c1 t (this ▸ ht)
      · exact hx t ht
theorem met_reach {T : Int → List Int} {n : Nat} (hT : ∀ t, (T t).length ≤ 2) (hR : ∀ t x, x ∈ T t → 0 ≤ x ∧ x < n) (x : Int) : metF T n x = true ↔ Reach T x := by
  obtain ⟨s, h, e⟩ := met_kids hT hR
  rw [← e]
  exact kids_zero h x
theorem reach_in {T : Int → List Int} {n : Nat} (hn : 0 < n) (hR : ∀ t x, x ∈ T t → 0 ≤ x ∧ x < (n : Int)) {x : Int} (h : Reach T x) : 0 ≤ x ∧ x < n := by
  cases h with
  | zero => omega
  | step _ ht => exact hR _ _ ht
def walkB (bs : List SB) (bar : Int) (x : Int) : Bool := !(bar == 0) && metF (tgb (tg bs) bar) bs.length x
theorem walkB_reach (bs : List SB) (bar : Int) (x : Int) : walkB bs bar x = true ↔ bar ≠ 0 ∧ Reach (tgb (tg bs) bar) x := by
  unfold walkB
  rw [Bool.and_eq_true, met_reach (fun t => tgb_len (fun t => tg_len bs t) bar t) (fun t x h => tg_mem (mem_tgb.1 h).1) x]
  simp
end Go.Mor
namespace Go.Mor
open Go.RowKit
def FamOf {α : Type} (enc : α → Value) (rows : List RowV) (l : List (List α)) : Prop := rows.map (fun r => (r.n, r.xs)) = l.map (fun x => (x.length, x.map enc))
section
variable {α : Type} {enc : α → Value} {rows : List RowV} {l : List (List α)}
theorem FamOf.len (h : FamOf enc rows l) : rows.length = l.length := by
  have := congrArg List.length h
  simpa using this
theorem FamOf.get (h : FamOf enc rows l) {i : Nat} {x : List α} (hi : l[i]? = some x) : ∃ A c, rows[i]? = some ⟨A, x.length, c, x.map enc⟩ := by
  have h1 : (rows.map (fun r => (r.n, r.xs)))[i]? = (l.map (fun x => (x.length, x.map enc)))[i]? := by rw [h]
  simp only [List.getElem?_map, hi, Option.map_some] at h1
  cases h2 : rows[i]? with
  | none => rw [h2] at h1; simp at h1
  | some r =>
    rw [h2] at h1
    simp only [Option.map_some, Option.some.injEq, Prod.mk.injEq] at h1
    obtain ⟨A, n, c, xs⟩ := r
    simp only at h1
    obtain ⟨rfl, rfl⟩ := h1
    exact ⟨A, c, rfl⟩
theorem FamOf.set (h : FamOf enc rows l) {A : Option Addr} {n c i : Nat} {xs : List Value} {x : List α} (hn : n = x.length) (hx : xs = x.map enc) : FamOf enc (rows.set i ⟨A, n, c, xs⟩) (l.set i x) := by
  subst hn
  subst hx
  unfold FamOf at h ⊢
  rw [List.map_set, List.map_set, h]
theorem FamOf.nils (n : Nat) : FamOf enc (List.replicate n nilV) (List.replicate n ([] : List α)) := by
  unfold FamOf
  simp [nilV]
end
theorem fam_rd {w : World} {e : Nat} {rows : List RowV} {A : Option Addr} {n c i : Nat} {xs : List Value} (h : (Res.fam e rows).holds w) (hi : rows[i]? = some ⟨A, n, c, xs⟩) : (Res.rd A xs).holds w := row_rd (fam_get h hi)
def overB (bs : List SB) (d b : Int) : Bool := walkB bs (-1) d && (walkB bs (-1) b && !(walkB bs d b))
def overL (bs : List SB) : List (List Bool) := (List.range bs.length).map (fun d : Nat => (List.range bs.length).map (fun b : Nat => overB bs (d : Int) (b : Int)))
theorem overL_len (bs : List SB) : (overL bs).length = bs.length := by simp [overL]
def at2 (l : List (List Bool)) (i j : Nat) : Bool := (l.getD i []).getD j false
def bestTo (l : List (List Bool)) (b : Nat) : Nat → Int
  | 0 => -1
  | k + 1 => if k ≠ b ∧ at2 l k b = true ∧ (bestTo l b k < 0 ∨ at2 l (bestTo l b k).toNat k = true) then (k : Int) else bestTo l b k
def aboveOfL (l : List (List Bool)) : List Int := (List.range l.length).map (fun b => bestTo l b l.length)
def raboveL (bs : List SB) : List Int := aboveOfL (overL bs)
theorem srcs_mem {bs : List SB} {y x : Int} (h : x ∈ srcs bs y) : 0 ≤ x ∧ x < bs.length := by
  simp only [srcs, srcsTo, List.mem_map, List.mem_filter, List.mem_range] at h
  obtain ⟨i, ⟨h1, _⟩, rfl⟩ := h
  omega
end Go.Mor
namespace Go.Mor
open Go.RowKit
theorem tgx_nodup (n : Nat) (x : SB) : (tgx n x).Nodup := by
  unfold tgx
  refine List.Pairwise.filter _ ?_
  split
  · simp
  · split
    · split
      · simp
      · rename_i h
        simp [h]
    · simp
theorem tg_nodup (bs : List SB) (b : Int) : (tg bs b).Nodup := by
  unfold tg
  split
  · split
    · exact tgx_nodup _ _
    · simp
  · simp
def allTo (bs : List SB) (i : Nat) : List (List Int) := (List.range bs.length).map (fun t : Nat => srcsTo bs (t : Int) i)
def allL (bs : List SB) : List (List Int) := (List.range bs.length).map (fun t : Nat => srcs bs (t : Int))
def allMid (bs : List SB) (i k : Nat) : List (List Int) := (List.range bs.length).map (fun t : Nat => srcsTo bs (t : Int) i ++ (if ((tg bs (i : Int)).take k).contains (t : Int) = true then [(i : Int)] else []))
theorem all_start (bs : List SB) : allTo bs 0 = List.replicate bs.length [] := by
  unfold allTo
  apply List.ext_getElem?
  intro t
  by_cases h : t < bs.length
  · simp [h, srcsTo]
  · rw [List.getElem?_eq_none (by simpa using h), List.getElem?_eq_none (by simpa using h)]
theorem all_mid (bs : List SB) (i : Nat) : allMid bs i 0 = allTo bs i := by
  unfold allMid allTo
  simp
theorem all_next {bs : List SB} {i k : Nat} (hk : (tg bs (i : Int)).length ≤ k) : allMid bs i k = allTo bs (i + 1) := by
  unfold allMid allTo
  apply List.map_congr_left
  intro t _
  rw [srcsTo_succ, List.take_of_length_le hk]
theorem all_end (bs : List SB) : allTo bs bs.length = allL bs := rfl
theorem mid_get {bs : List SB} {i k ti : Nat} (hk : (tg bs (i : Int))[k]? = some (ti : Int)) (ht : ti < bs.length) : (allMid bs i k)[ti]? = some (srcsTo bs (ti : Int) i) := by
  have hn := tg_nodup bs (i : Int)
  have hno : ¬ (ti : Int) ∈ (tg bs (i : Int)).take k := by
    intro h
    obtain ⟨hlt, he⟩ := List.getElem?_eq_some_iff.1 hk
    obtain ⟨j, hj, he2⟩ := List.mem_take_iff_getElem.1 h
    exact List.pairwise_iff_getElem.1 hn j k (by omega) hlt (by omega) (he2.trans he.symm)
  unfold allMid
  rw [List.getElem?_map, List.getElem?_range ht]
  simp [hno]
theorem mid_set {bs : List SB} {i k ti : Nat} (hk : (tg bs (i : Int))[k]? = some (ti : Int)) (ht : ti < bs.length) : (allMid bs i k).set ti (srcsTo bs (ti : Int) i ++ [(i : Int)]) = allMid bs i (k + 1) := by
  obtain ⟨hlt, he⟩ := List.getElem?_eq_some_iff.1 hk
  apply List.ext_getElem?
  intro t
  by_cases h : ti = t
  · subst h
    rw [List.getElem?_set_self (by simpa [allMid] using ht)]
    unfold allMid
    rw [List.getElem?_map, List.getElem?_range ht, List.take_succ_eq_append_getElem hlt, he]
    simp
  · rw [List.getElem?_set_ne h]
    unfold allMid
    rw [List.getElem?_map, List.getElem?_map]
    by_cases h2 : t < bs.length
    · rw [List.getElem?_range h2, List.take_succ_eq_append_getElem hlt, he]
      have h3 : ¬ ((t : Int) = (ti : Int)) := by omega
      simp [h3]
    · rw [List.getElem?_eq_none (by simpa using h2)]
      rfl
theorem allL_get {bs : List SB} {t : Nat} (h : t < bs.length) : (allL bs)[t]? = some (srcs bs (t : Int)) := by simp [allL, h]
theorem allL_len (bs : List SB) : (allL bs).length = bs.length := by simp [allL]
theorem set_twice {rows : List RowV} {i : Nat} {r : RowV} : (rows.set i nilV).set i r = rows.set i r := List.set_set ..
end Go.Mor
namespace Go.Mor
open Go.RowKit
section
variable (T : Int → List Int)
def Dm (d x : Int) : Prop := ¬ (d ≠ 0 ∧ Reach (tgb T d) x)
inductive RA (pl : Int → Int) (d : Int) : Nat → Int → Prop
  | zero (k : Nat) : d ≠ 0 → RA pl d k 0
  | adv {k : Nat} {x t : Int} : RA pl d k x → t ∈ T x → t ≠ d → pl x < pl t → RA pl d k t
  | ret {k : Nat} {x t : Int} : RA pl d k x → t ∈ T x → t ≠ d → RA pl d (k + 1) t
structure Plc (pl : Int → Int) : Prop where
  reach : ∀ x, 0 ≤ pl x ↔ Reach T x
  zero : pl 0 = 0
  inj : ∀ x y, 0 ≤ pl x → pl x = pl y → x = y
  src : ∀ x, 0 ≤ pl x → x ≠ 0 → ∃ s, 0 ≤ pl s ∧ pl s < pl x ∧ x ∈ T s
end
section
variable {T : Int → List Int} {pl : Int → Int}
theorem RA.self {d : Int} {k : Nat} : ¬ RA T pl d k d := by
  intro h
  cases h with
  | zero _ h => exact h rfl
  | adv _ _ h _ => exact h rfl
  | ret _ _ h => exact h rfl
theorem RA.mono {d x : Int} {k : Nat} (h : RA T pl d k x) : RA T pl d (k + 1) x := by
  induction h with
  | zero k h => exact .zero _ h
  | adv _ ht hne hl ih => exact .adv ih ht hne hl
  | ret _ ht hne ih => exact .ret ih ht hne
theorem RA.le {d x : Int} {k m : Nat} (h : RA T pl d k x) (hk : k ≤ m) : RA T pl d m x := by
  induction hk with
  | refl => exact h
  | step _ ih => exact ih.mono
theorem RA.reach {d x : Int} {k : Nat} (h : RA T pl d k x) : Reach T x := by
  induction h with
  | zero => exact .zero
  | adv _ ht _ _ ih => exact .step ih ht
  | ret _ ht _ ih => exact .step ih ht
theorem RA.ex {d x : Int} (hd : d ≠ 0) (h : Reach (tgb T d) x) : ∃ k, RA T pl d k x := by
  induction h with
  | zero => exact ⟨0, .zero 0 hd⟩
  | step _ ht ih =>
    obtain ⟨k, hk⟩ := ih
    exact ⟨k + 1, .ret hk (mem_tgb.1 ht).1 (mem_tgb.1 ht).2⟩
theorem RA.cut {d b x : Int} {k : Nat} (h : RA T pl d k x) : RA T pl b k x ∨ RA T pl d k b := by
  induction h with
  | zero k h =>
    by_cases e : b = 0
    · subst e; exact .inr (.zero k h)
    · exact .inl (.zero k e)
  | @adv k x t hx ht hne hl ih =>
    rcases ih with ih | ih
    · by_cases e : t = b
      · subst e; exact .inr (.adv hx ht hne hl)
      · exact .inl (.adv ih ht e hl)
    · exact .inr ih
  | @ret k x t hx ht hne ih =>
    rcases ih with ih | ih
    · by_cases e : t = b
      · subst e; exact .inr (.ret hx ht hne)
      · exact .inl (.ret ih ht e)
    · exact .inr ih.mono
theorem RA.stable {d : Int} {k : Nat} (hs : ∀ x, RA T pl d (k + 1) x → RA T pl d k x) : ∀ m x, RA T pl d m x → RA T pl d k x := by
  intro m x h
  induction h with
  | zero _ h => exact .zero k h
  | adv _ ht hne hl ih => exact .adv ih ht hne hl
  | ret _ ht hne ih => exact hs _ (.ret ih ht hne)
open Classical in
theorem RA.grow {n : Nat} (hR : ∀ x, Reach T x → 0 ≤ x ∧ x < (n : Int)) (d : Int) (k : Nat) : (∃ j, j ≤ k ∧ ∀ x, RA T pl d (j + 1) x → RA T pl d j x) ∨ unmet n (fun x => decide (RA T pl d k x)) + k ≤ n := by
  induction k with
  | zero => exact .inr (by have := unmet_le n (fun x => decide (RA T pl d 0 x)); omega)
  | succ k ih =>
    rcases ih with ⟨j, hj, h⟩ | ih
    · exact .inl ⟨j, by omega, h⟩
    · by_cases hs : ∀ x, RA T pl d (k + 1) x → RA T pl d k x
      · exact .inl ⟨k, by omega, hs⟩
      · right
        have ⟨x, hx⟩ := Classical.not_forall.1 hs
        have ⟨h1, h2⟩ := Classical.not_imp.1 hx
        obtain ⟨r0, r1⟩ := hR x h1.reach
        have hu := unmet_add (n := n) (S := fun x => decide (RA T pl d k x)) (t := x) r0 r1 (by simpa using h2)
        have hm := unmet_mono (n := n) (S := addS (fun x => decide (RA T pl d k x)) x) (S' := fun x => decide (RA T pl d (k + 1) x)) (fun y hy => by
          simp only [addS, Bool.or_eq_true, beq_iff_eq, decide_eq_true_eq] at hy ⊢
          rcases hy with rfl | hy
          · exact h1
          · exact hy.mono)
        omega
theorem RA.all {n : Nat} (hR : ∀ x, Reach T x → 0 ≤ x ∧ x < (n : Int)) {d x : Int} (h : ¬ RA T pl d (n + 1) x) : Dm T d x := by
  rintro ⟨hd, hr⟩
  obtain ⟨m, hm⟩ := RA.ex (pl := pl) hd hr
  rcases RA.grow (pl := pl) hR d (n + 1) with ⟨j, hj, hs⟩ | hu
  · exact h ((RA.stable hs m x hm).le hj)
  · omega
theorem Dm.self (x : Int) : Dm T x x := by
  rintro ⟨h0, h⟩
  cases h with
  | zero => exact h0 rfl
  | step _ ht => exact (mem_tgb.1 ht).2 rfl
theorem Dm.at_zero {d : Int} (h : Dm T d 0) : d = 0 := by
  by_cases e : d = 0
  · exact e
  · exact absurd ⟨e, Reach.zero⟩ h
theorem Dm.src {d x s : Int} (h : Dm T d x) (hne : d ≠ x) (hx : x ∈ T s) : Dm T d s := by
  rintro ⟨hd, hr⟩
  exact h ⟨hd, .step hr (mem_tgb.2 ⟨hx, fun e => hne e.symm⟩)⟩
theorem Dm.le (hp : Plc T pl) {d x : Int} (hx : 0 ≤ pl x) (h : Dm T d x) : pl d ≤ pl x := by
  by_cases hlt : pl d ≤ pl x
  · exact hlt
  · exfalso
    have hd : d ≠ 0 := by
      rintro rfl
      rw [hp.zero] at hlt
      omega
    refine h ⟨hd, ?_⟩
    clear h
    have key : ∀ (m : Nat) (x : Int), 0 ≤ pl x → pl x < pl d → (pl x).toNat ≤ m → Reach (tgb T d) x := by
      intro m
      induction m with
      | zero =>
        intro x h0 _ hm
        have : x = 0 := hp.inj x 0 h0 (by rw [hp.zero]; omega)
        exact this ▸ .zero
      | succ m ih =>
        intro x h0 h1 hm
        by_cases e : x = 0
        · exact e ▸ .zero
        · obtain ⟨s, s0, s1, hs⟩ := hp.src x h0 e
          exact .step (ih s s0 (by omega) (by omega)) (mem_tgb.2 ⟨hs, fun e => by subst e; omega⟩)
    exact key _ x hx (by omega) (Nat.le_refl _)
theorem Dm.reach {d x : Int} (hx : Reach T x) (h : Dm T d x) : Reach T d := by
  by_cases hd : Reach T d
  · exact hd
  · exfalso
    refine h ⟨fun e => hd (e ▸ .zero), ?_⟩
    induction hx with
    | zero => exact .zero
    | @step y t hy ht ih =>
      have hih : Reach (tgb T d) y := by
        by_cases h2 : Dm T d y
        · exact ih h2
        · exact (Classical.not_not.1 h2).2
      exact .step hih (mem_tgb.2 ⟨ht, fun e => hd (e ▸ .step hy ht)⟩)
inductive Anc (up : Int → Int) : Int → Int → Prop
  | refl (x : Int) : Anc up x x
  | step {x d : Int} : x ≠ 0 → Anc up (up x) d → Anc up x d
theorem Anc.trans {up : Int → Int} {x y z : Int} (h : Anc up x y) (h' : Anc up y z) : Anc up x z := by
  induction h with
  | refl => exact h'
  | step hne _ ih => exact .step hne (ih h')
def Prc (pl up : Int → Int) (x : Int) : Prop := 0 ≤ pl x ∧ (x = 0 ∨ 0 ≤ up x)
structure Up (T : Int → List Int) (pl up : Int → Int) : Prop where
  low : ∀ x, Prc pl up x → x ≠ 0 → Prc pl up (up x) ∧ pl (up x) < pl x
  dom : ∀ x d, Prc pl up x → x ≠ 0 → Dm T d x → d ≠ x → Dm T d (up x)
theorem Anc.zero {up : Int → Int} {d : Int} (h : Anc up 0 d) : d = 0 := by
  cases h with
  | refl => rfl
  | step h _ => exact absurd rfl h
theorem Anc.prc {up : Int → Int} (hu : Up T pl up) {x d : Int} (h : Anc up x d) (hx : Prc pl up x) : Prc pl up d ∧ pl d ≤ pl x ∧ (d ≠ x → pl d < pl x) := by
  induction h with
  | refl => exact ⟨hx, Int.le_refl _, fun h => absurd rfl h⟩
  | @step x d hne _ ih =>
    obtain ⟨h1, h2⟩ := hu.low x hx hne
    obtain ⟨a, b, c⟩ := ih h1
    exact ⟨a, by omega, fun _ => by omega⟩
theorem Up.anc {up : Int → Int} (hu : Up T pl up) {x d : Int} (hx : Prc pl up x) (h : Dm T d x) : Anc up x d := by
  have key : ∀ (m : Nat) (x : Int), Prc pl up x → (pl x).toNat ≤ m → Dm T d x → Anc up x d := by
    intro m
    induction m with
    | zero =>
      intro x hx hm h
      by_cases e : d = x
      · exact e ▸ .refl _
      · by_cases e0 : x = 0
        · subst e0; exact absurd h.at_zero e
        · have h2 := hu.low x hx e0
          have := h2.1.1
          omega
    | succ m ih =>
      intro x hx hm h
      by_cases e : d = x
      · exact e ▸ .refl _
      · by_cases e0 : x = 0
        · subst e0; exact absurd h.at_zero e
        · have h2 := hu.low x hx e0
          have := h2.1.1
          exact .step e0 (ih _ h2.1 (by omega) (hu.dom x d hx e0 h e))
  exact key _ x hx (Nat.le_refl _) h
inductive Climb (pl up : Int → Int) : Int → Int → Int → Prop
  | done (x : Int) : Climb pl up x x x
  | left {a b c : Int} : pl b < pl a → Climb pl up (up a) b c → Climb pl up a b c
  | right {a b c : Int} : pl a < pl b → Climb pl up a (up b) c → Climb pl up a b c
theorem Climb.what {up : Int → Int} (hp : Plc T pl) (hu : Up T pl up) {a b c : Int} (h : Climb pl up a b c) (ha : Prc pl up a) (hb : Prc pl up b) :
    Prc pl up c ∧ Anc up a c ∧ Anc up b c ∧ ∀ d, Dm T d a → Dm T d b → Dm T d c := by
  induction h with
  | done x => exact ⟨ha, .refl _, .refl _, fun d h _ => h⟩
  | @left a b c hlt _ ih =>
    have hne : a ≠ 0 := by
      rintro rfl
      rw [hp.zero] at hlt
      have := hb.1
      omega
    obtain ⟨h1, _⟩ := hu.low a ha hne
    obtain ⟨q1, q2, q3, q4⟩ := ih h1 hb
    refine ⟨q1, .step hne q2, q3, fun d hd hd' => q4 d (hu.dom a d ha hne hd ?_) hd'⟩
    rintro rfl
    have := Dm.le hp hb.1 hd'
    omega
  | @right a b c hlt _ ih =>
    have hne : b ≠ 0 := by
      rintro rfl
      rw [hp.zero] at hlt
      have := ha.1
      omega
    obtain ⟨h1, _⟩ := hu.low b hb hne
    obtain ⟨q1, q2, q3, q4⟩ := ih ha h1
    refine ⟨q1, q2, .step hne q3, fun d hd hd' => q4 d hd (hu.dom b d hb hne hd' ?_)⟩
    rintro rfl
    have := Dm.le hp ha.1 hd
    omega
end
end Go.Mor
namespace Go.Mor
open Go.RowKit
section
variable {T : Int → List Int} {pl : Int → Int}
structure Rnd (T : Int → List Int) (pl up : Int → Int) (k : Nat) (j : Int) : Prop where
  ok : Up T pl up
  some : ∀ x, 0 ≤ pl x → x ≠ 0 → (pl x ≤ j ∨ 1 ≤ k) → 0 ≤ up x
  off : ∀ x, (pl x < 0 ∨ x = 0) → up x = -1
  non : k = 0 → ∀ x, j < pl x → up x = -1
  lo : ∀ x d, Prc pl up x → pl x ≤ j → Anc up x d → ¬ RA T pl d k x
  hi : 1 ≤ k → ∀ x d, Prc pl up x → Anc up x d → ¬ RA T pl d (k - 1) x
def Fold (T : Int → List Int) (pl up : Int → Int) (ss : List Int) (to : Int) : Prop :=
  (to = -1 ∧ ∀ s, s ∈ ss → ¬ Prc pl up s) ∨ (Prc pl up to ∧ (∃ s, s ∈ ss ∧ Prc pl up s) ∧ (∀ s, s ∈ ss → Prc pl up s → Anc up s to) ∧ ∀ d, (∀ s, s ∈ ss → Prc pl up s → Dm T d s) → Dm T d to)
variable {up : Int → Int}
theorem Fold.start : Fold T pl up [] (-1) := .inl ⟨rfl, fun _ h => (List.not_mem_nil h).elim⟩
theorem Fold.skip {ss : List Int} {to s : Int} (h : Fold T pl up ss to) (hs : ¬ Prc pl up s) : Fold T pl up (ss ++ [s]) to := by
  have hm : ∀ x, x ∈ ss ++ [s] → Prc pl up x → x ∈ ss := by
    intro x hx hp
    rcases List.mem_append.1 hx with hx | hx
    · exact hx
    · simp only [List.mem_singleton] at hx
      exact absurd (hx ▸ hp) hs
  rcases h with ⟨h1, h2⟩ | ⟨h1, ⟨q, hq, hqp⟩, h2, h3⟩
  · exact .inl ⟨h1, fun x hx hp => h2 x (hm x hx hp) hp⟩
  · exact .inr ⟨h1, ⟨q, List.mem_append_left _ hq, hqp⟩, fun x hx hp => h2 x (hm x hx hp) hp, fun d hd => h3 d (fun x hx hp => hd x (List.mem_append_left _ hx) hp)⟩
theorem Fold.first {ss : List Int} {to s : Int} (h : Fold T pl up ss to) (hto : to < 0) (hr : ∀ x, 0 ≤ pl x → 0 ≤ x) (hs : Prc pl up s) : Fold T pl up (ss ++ [s]) s := by
  rcases h with ⟨h1, h2⟩ | ⟨h1, _⟩
  · refine .inr ⟨hs, ⟨s, by simp, hs⟩, fun x hx hp => ?_, fun d hd => hd s (by simp) hs⟩
    rcases List.mem_append.1 hx with hx | hx
    · exact absurd hp (h2 x hx)
    · simp only [List.mem_singleton] at hx
      exact hx ▸ .refl _
  · have := hr to h1.1
    omega
theorem Fold.meet {ss : List Int} {to s c : Int} (hp : Plc T pl) (hu : Up T pl up) (h : Fold T pl up ss to) (hto : 0 ≤ to) (hs : Prc pl up s) (hc : Climb pl up to s c) : Fold T pl up (ss ++ [s]) c := by
  rcases h with ⟨h1, h2⟩ | ⟨h1, h0, h2, h3⟩
  · omega
  · obtain ⟨q1, q2, q3, q4⟩ := hc.what hp hu h1 hs
    refine .inr ⟨q1, ⟨s, by simp, hs⟩, fun x hx hp => ?_, fun d hd => q4 d (h3 d (fun x hx hp => hd x (List.mem_append_left _ hx) hp)) (hd s (by simp) hs)⟩
    rcases List.mem_append.1 hx with hx | hx
    · exact (h2 x hx hp).trans q2
    · simp only [List.mem_singleton] at hx
      exact hx ▸ q3
theorem Fold.prc {ss : List Int} {to : Int} (h : Fold T pl up ss to) (hto : 0 ≤ to) : Prc pl up to := by
  rcases h with ⟨h1, _⟩ | ⟨h1, _⟩
  · omega
  · exact h1
def updI (up : Int → Int) (b c : Int) : Int → Int := fun x => if x = b then c else up x
theorem upd_same {b : Int} : updI up b (up b) = up := by
  funext x
  unfold updI
  split
  · subst_vars; rfl
  · rfl
theorem upd_at {b c : Int} : updI up b c b = c := by simp [updI]
theorem upd_ne {b c x : Int} (h : x ≠ b) : updI up b c x = up x := by simp [updI, h]
section
variable {b c : Int}
theorem upd_prc (hc : 0 ≤ c) {x : Int} (h : Prc pl up x) : Prc pl (updI up b c) x := by
  refine ⟨h.1, h.2.imp id fun h => ?_⟩
  by_cases e : x = b
  · subst e; rw [upd_at]; exact hc
  · rw [upd_ne e]; exact h
theorem prc_upd {x : Int} (h : Prc pl (updI up b c) x) (e : x ≠ b) : Prc pl up x := by
  refine ⟨h.1, h.2.imp id fun h => ?_⟩
  rwa [upd_ne e] at h
theorem anc_upd {x d : Int} (h : Anc (updI up b c) x d) : Anc up x d ∨ (Anc up x b ∧ Anc (updI up b c) b d) := by
  induction h with
  | refl x => exact .inl (.refl x)
  | @step x d hne h ih =>
    by_cases e : x = b
    · subst e; exact .inr ⟨.refl _, .step hne h⟩
    · rw [upd_ne e] at ih
      rcases ih with ih | ⟨ih, h2⟩
      · exact .inl (.step hne ih)
      · exact .inr ⟨.step hne ih, h2⟩
theorem anc_below (hu : Up T pl up) {x d : Int} (h : Anc (updI up b c) x d) (hx : Prc pl up x) (hlt : pl x < pl b) : Anc up x d := by
  induction h with
  | refl x => exact .refl x
  | @step x d hne h ih =>
    have e : x ≠ b := by rintro rfl; omega
    rw [upd_ne e] at h ih
    obtain ⟨h1, h2⟩ := hu.low x hx hne
    exact .step hne (ih h1 (by omega))
theorem Rnd.step {k : Nat} {j : Int} {ss : List Int} (hp : Plc T pl) (hr : ∀ x, 0 ≤ pl x → 0 ≤ x) (h : Rnd T pl up k j) (hj : 0 ≤ j) (hb : pl b = j + 1) (hss : ∀ s, 0 ≤ pl s → (s ∈ ss ↔ b ∈ T s)) (hc : Fold T pl up ss c) :
    0 ≤ c ∧ Prc pl up c ∧ pl c < pl b ∧ (∀ s, Prc pl up s → b ∈ T s → Anc up s c) ∧ (∀ d, d ≠ b → Dm T d b → Dm T d c) ∧ Rnd T pl (updI up b c) k (j + 1) := by
  have hb0 : b ≠ 0 := by
    rintro rfl
    rw [hp.zero] at hb
    omega
  have hbr : 0 ≤ pl b := by omega
  obtain ⟨s0, p0, p1, ps⟩ := hp.src b hbr hb0
  have prc_le : ∀ x, 0 ≤ pl x → pl x ≤ j ∨ 1 ≤ k → Prc pl up x := by
    intro x h0 h1
    refine ⟨h0, ?_⟩
    by_cases e : x = 0
    · exact .inl e
    · exact .inr (h.some x h0 e h1)
  have hs0 : Prc pl up s0 := prc_le s0 p0 (.inl (by omega))
  rcases hc with ⟨_, h2⟩ | ⟨hcp, _, h2, h3⟩
  · exact absurd hs0 (h2 s0 ((hss s0 p0).2 ps))
  · have a2 : ∀ s, Prc pl up s → b ∈ T s → Anc up s c := fun s hs hbs => h2 s ((hss s hs.1).2 hbs) hs
    have a0 := (a2 s0 hs0 ps).prc h.ok hs0
    have hcb : pl c < pl b := by omega
    have hc0 : 0 ≤ c := hr c hcp.1
    have a3 : ∀ d, d ≠ b → Dm T d b → Dm T d c := fun d hne hd => h3 d (fun s hs hsp => hd.src hne ((hss s hsp.1).1 hs))
    have hcne : c ≠ b := by rintro rfl; omega
    -- what stands above the changed one
    have ab : ∀ d, Anc (updI up b c) b d → d = b ∨ Anc up c d := by
      intro d hd
      cases hd with
      | refl => exact .inl rfl
      | step _ hd =>
        rw [upd_at] at hd
        exact .inr (anc_below h.ok hd hcp hcb)
    have nb : ∀ d, Anc (updI up b c) b d → ¬ RA T pl d k b := by
      intro d hd
      rcases ab d hd with rfl | hd
      · exact RA.self
      · intro hra
        cases hra with
        | zero => exact hb0 rfl
        | @adv _ s _ hs hbs hne hl =>
          have hsr := (hp.reach s).2 hs.reach
          have hsp := prc_le s hsr (.inl (by omega))
          exact h.lo s d hsp (by omega) ((a2 s hsp hbs).trans hd) hs
        | @ret k' s _ hs hbs hne =>
          have hsr := (hp.reach s).2 hs.reach
          have hsp := prc_le s hsr (.inr (by omega))
          exact h.hi (by omega) s d hsp ((a2 s hsp hbs).trans hd) (by simpa using hs)
    refine ⟨hc0, hcp, hcb, a2, a3, ⟨⟨fun x hx hne => ?_, fun x d hx hne hd hdx => ?_⟩, fun x hx hne hj' => ?_, fun x hx => ?_, fun hk x hx => ?_, fun x d hx hj' hd hra => ?_, fun hk x d hx hd hra => ?_⟩⟩
    · by_cases e : x = b
      · subst e
        rw [upd_at]
        exact ⟨upd_prc hc0 hcp, hcb⟩
      · rw [upd_ne e]
        obtain ⟨h1, h2⟩ := h.ok.low x (prc_upd hx e) hne
        exact ⟨upd_prc hc0 h1, h2⟩
    · by_cases e : x = b
      · subst e
        rw [upd_at]
        exact a3 d hdx hd
      · rw [upd_ne e]
        exact h.ok.dom x d (prc_upd hx e) hne hd hdx
    · by_cases e : x = b
      · subst e
        rw [upd_at]
        exact hc0
      · rw [upd_ne e]
        refine h.some x hx hne (hj'.imp (fun h1 => ?_) id)
        by_cases e2 : pl x = j + 1
        · exact absurd (hp.inj x b hx (by omega)) e
        · omega
    · have e : x ≠ b := by
        rintro rfl
        omega
      rw [upd_ne e]
      exact h.off x hx
    · have e : x ≠ b := by
        rintro rfl
        omega
      rw [upd_ne e]
      exact h.non hk x (by omega)
    · by_cases e : x = b
      · subst e
        exact nb d hd hra
      · have hx' := prc_upd hx e
        have hxj : pl x ≤ j := by
          by_cases e2 : pl x = j + 1
          · exact absurd (hp.inj x b hx.1 (by omega)) e
          · omega
        rcases anc_upd hd with hd | ⟨hxb, hd⟩
        · exact h.lo x d hx' hxj hd hra
        · rcases RA.cut (b := b) hra with h1 | h1
          · exact h.lo x b hx' hxj hxb h1
          · exact nb d hd h1
    · by_cases e : x = b
      · subst e
        exact nb d hd (hra.le (by omega))
      · have hx' := prc_upd hx e
        rcases anc_upd hd with hd | ⟨hxb, hd⟩
        · exact h.hi hk x d hx' hd hra
        · rcases RA.cut (b := b) hra with h1 | h1
          · exact h.hi hk x b hx' hxb h1
          · exact nb d hd (h1.le (by omega))
end
theorem Rnd.start (hp : Plc T pl) : Rnd T pl (fun _ => -1) 0 0 := by
  have hz : ∀ x, Prc pl (fun _ => -1) x → x = 0 := by
    rintro x ⟨_, h | h⟩
    · exact h
    · have h : (0 : Int) ≤ -1 := h
      omega
  refine ⟨⟨fun x hx hne => absurd (hz x hx) hne, fun x d hx hne => absurd (hz x hx) hne⟩, fun x hx hne h => ?_, fun _ _ => rfl, fun _ _ _ => rfl, fun x d hx _ hd => ?_, fun h => absurd h (by decide)⟩
  · exfalso
    rcases h with h | h
    · exact hne (hp.inj x 0 hx (by rw [hp.zero]; omega))
    · omega
  · have := hz x hx
    subst this
    rw [hd.zero]
    exact RA.self
theorem Rnd.turn {k : Nat} {j : Int} (hp : Plc T pl) (h : Rnd T pl up k j) (hj : ∀ x, pl x ≤ j) : Rnd T pl up (k + 1) 0 := by
  refine ⟨h.ok, fun x hx hne _ => h.some x hx hne (.inl (hj x)), h.off, fun h => absurd h (by omega), fun x d hx h0 hd => ?_, fun _ x d hx hd => by simpa using h.lo x d hx (hj x) hd⟩
  have : x = 0 := hp.inj x 0 hx.1 (by have := hx.1; rw [hp.zero]; omega)
  subst this
  rw [hd.zero]
  exact RA.self
theorem Rnd.full {k n : Nat} {j : Int} {b c : Int} (hp : Plc T pl) (hR : ∀ x, Reach T x → 0 ≤ x ∧ x < (n : Int)) (h : Rnd T pl up k j) (hk : n + 2 ≤ k) (hb : 0 ≤ pl b) (hb0 : b ≠ 0) (hcp : Prc pl up c) (hcb : pl c < pl b)
    (a2 : ∀ s, Prc pl up s → b ∈ T s → Anc up s c) (a3 : ∀ d, d ≠ b → Dm T d b → Dm T d c) : up b = c := by
  have prc : ∀ x, 0 ≤ pl x → Prc pl up x := fun x h0 => ⟨h0, by
    by_cases e : x = 0
    · exact .inl e
    · exact .inr (h.some x h0 e (.inr (by omega)))⟩
  have dm : ∀ x d, Prc pl up x → Anc up x d → Dm T d x := fun x d hx hd => RA.all (pl := pl) hR (n := n) (fun hra => h.hi (by omega) x d hx hd (hra.le (by omega)))
  have hbp := prc b hb
  obtain ⟨h1, h2⟩ := h.ok.low b hbp hb0
  have hub : up b ≠ b := by
    intro e
    rw [e] at h2
    omega
  have e1 : Anc up c (up b) := h.ok.anc hcp (a3 _ hub (dm b _ hbp (.step hb0 (.refl _))))
  have hcne : c ≠ b := by rintro rfl; omega
  have dcb : Dm T c b := by
    rintro ⟨hc0, hr⟩
    cases hr with
    | zero => exact hb0 rfl
    | @step s _ hs hbs =>
      have hbs' := (mem_tgb.1 hbs).1
      have hsr : Reach T s := by
        have key : ∀ x, Reach (tgb T c) x → Reach T x := by
          intro x hx
          induction hx with
          | zero => exact .zero
          | step _ ht ih => exact .step ih (mem_tgb.1 ht).1
        exact key s hs
      have hsp := prc s ((hp.reach s).2 hsr)
      exact dm s c hsp (a2 s hsp hbs') ⟨hc0, hs⟩
  have e2 : Anc up (up b) c := h.ok.anc h1 (h.ok.dom b c hbp hb0 dcb hcne)
  have q1 := (e1.prc h.ok hcp).2.1
  have q2 := (e2.prc h.ok h1).2.1
  exact hp.inj _ _ h1.1 (by omega)
def Stl (T : Int → List Int) (pl up : Int → Int) (j : Int) : Prop := ∀ b s, 1 ≤ pl b → pl b ≤ j → 0 ≤ pl s → b ∈ T s → Anc up s (up b)
theorem Stl.start : Stl T pl up 0 := fun b s h h' => by omega
theorem Stl.next {j b : Int} (hp : Plc T pl) (h : Stl T pl up j) (hb : pl b = j + 1) (ha : ∀ s, 0 ≤ pl s → b ∈ T s → Anc up s (up b)) : Stl T pl up (j + 1) := by
  intro x s h1 h2 hs hx
  by_cases e : pl x = j + 1
  · have : x = b := hp.inj x b (by omega) (by omega)
    exact this ▸ ha s hs (this ▸ hx)
  · exact h x s h1 (by omega) hs hx
theorem Stl.dm {j : Int} (hp : Plc T pl) (h : Stl T pl up j) (hj : ∀ x, pl x ≤ j) {x d : Int} (ha : Anc up x d) : Dm T d x := by
  rintro ⟨hd, hr⟩
  have toR : ∀ x, Reach (tgb T d) x → Reach T x := by
    intro x hx
    induction hx with
    | zero => exact .zero
    | step _ ht ih => exact .step ih (mem_tgb.1 ht).1
  induction hr with
  | zero => exact hd ha.zero
  | @step y t hy ht ih =>
    obtain ⟨ht', hne⟩ := mem_tgb.1 ht
    cases ha with
    | refl => exact hne rfl
    | step h0 ha =>
      have hyr := (hp.reach y).2 (toR y hy)
      have htr := (hp.reach t).2 (.step (toR y hy) ht')
      have : 1 ≤ pl t := by
        by_cases e : pl t = 0
        · exact absurd (hp.inj t 0 htr (by rw [hp.zero]; exact e)) h0
        · omega
      exact ih ((h t y this (hj t) hyr ht').trans ha)
theorem Anc.total {x y z : Int} (h : Anc up x y) (h' : Anc up x z) : Anc up y z ∨ Anc up z y := by
  induction h with
  | refl => exact .inl h'
  | @step x d hne h ih =>
    cases h' with
    | refl => exact .inr (.step hne h)
    | step _ h' => exact ih h'
end
end Go.Mor
namespace Go.Mor
open Go.RowKit
def IntsOf (n : Nat) (l : List Int) (f : Int → Int) : Prop := l.length = n ∧ ∀ i : Nat, i < n → l.getD i 0 = f (i : Int)
theorem IntsOf.ext {n : Nat} {l m : List Int} {f : Int → Int} (h : IntsOf n l f) (h' : IntsOf n m f) : l = m := by
  apply List.ext_getElem?
  intro i
  by_cases hi : i < n
  · have h1 := h.2 i hi
    have h2 := h'.2 i hi
    have e1 : i < l.length := by rw [h.1]; exact hi
    have e2 : i < m.length := by rw [h'.1]; exact hi
    simp only [List.getD, List.getElem?_eq_getElem e1, List.getElem?_eq_getElem e2, Option.getD_some] at h1 h2 ⊢
    rw [h1, h2]
  · rw [List.getElem?_eq_none (by rw [h.1]; omega), List.getElem?_eq_none (by rw [h'.1]; omega)]
theorem IntsOf.set {n : Nat} {l : List Int} {f g : Int → Int} (h : IntsOf n l f) {i : Nat} {v : Int} (_hi : i < n) (hg : g (i : Int) = v) (hne : ∀ j : Nat, j < n → j ≠ i → g (j : Int) = f (j : Int)) : IntsOf n (l.set i v) g := by
  refine ⟨by simp [h.1], fun j hj => ?_⟩
  by_cases e : i = j
  · subst e
    have : i < l.length := by rw [h.1]; exact hj
    simp [List.getD, this, hg]
  · rw [hne j hj (fun h => e h.symm), ← h.2 j hj]
    simp [List.getD, List.getElem?_set_ne e]
theorem IntsOf.get {n : Nat} {l : List Int} {f : Int → Int} (h : IntsOf n l f) {i : Nat} (hi : i < n) : l[i]? = some (f (i : Int)) := by
  have h1 := h.2 i hi
  have e1 : i < l.length := by rw [h.1]; exact hi
  simp only [List.getD, List.getElem?_eq_getElem e1, Option.getD_some] at h1
  rw [List.getElem?_eq_getElem e1, h1]
theorem IntsOf.congr {n : Nat} {l : List Int} {f g : Int → Int} (h : IntsOf n l f) (e : ∀ i : Nat, i < n → f (i : Int) = g (i : Int)) : IntsOf n l g := ⟨h.1, fun i hi => (h.2 i hi).trans (e i hi)⟩
def fillF (k : Nat) (x : Int) : Int := if x < (k : Int) then -1 else 0
theorem fill_start (n : Nat) : IntsOf n (List.replicate n 0) (fillF 0) := ⟨by simp, fun i hi => by
  have : ¬ ((i : Int) < ((0 : Nat) : Int)) := by omega
  rw [fillF, if_neg this]
  simp [List.getD, hi]⟩
theorem fill_next {n k : Nat} {l : List Int} (h : IntsOf n l (fillF k)) (hk : k < n) : IntsOf n (l.set k (-1)) (fillF (k + 1)) := by
  refine h.set hk ?_ fun j _ hne => ?_
  · rw [fillF, if_pos (by omega)]
  · unfold fillF
    by_cases e : (j : Int) < (k : Int)
    · rw [if_pos e, if_pos (by omega)]
    · rw [if_neg e, if_neg (by omega)]
theorem fill_end {n k : Nat} {l : List Int} (h : IntsOf n l (fillF k)) (hk : n ≤ k) : IntsOf n l (fun _ => -1) := h.congr (fun i hi => by rw [fillF, if_pos (by omega)])
def plc (l : List Int) (x : Int) : Int := fidx (fun y => y == x) l
theorem plc_at {l : List Int} (hn : l.Nodup) {i : Nat} {x : Int} (h : l[i]? = some x) : plc l x = (i : Int) := by
  obtain ⟨hlt, he⟩ := List.getElem?_eq_some_iff.1 h
  refine fidx_hit (j := i) ?_ (by simp [List.getD, hlt, he]) hlt
  rw [List.any_eq_false]
  intro y hy
  obtain ⟨j, hj, he2⟩ := List.mem_take_iff_getElem.1 hy
  simp only [beq_iff_eq]
  intro e
  exact List.pairwise_iff_getElem.1 hn j i (by omega) hlt (by omega) (by rw [he2, he, e])
theorem plc_no {l : List Int} {x : Int} (h : x ∉ l) : plc l x = -1 := by
  refine fidx_miss (j := l.length) ?_ (Nat.le_refl _)
  rw [List.any_eq_false]
  intro y hy
  simp only [beq_iff_eq]
  rintro rfl
  exact h (List.mem_of_mem_take hy)
theorem plc_mem {l : List Int} (hn : l.Nodup) {x : Int} : 0 ≤ plc l x ↔ x ∈ l := by
  constructor
  · intro h
    by_cases e : x ∈ l
    · exact e
    · rw [plc_no e] at h; omega
  · intro h
    obtain ⟨i, hi⟩ := List.mem_iff_getElem?.1 h
    rw [plc_at hn hi]
    omega
theorem plc_get {l : List Int} (hn : l.Nodup) {x : Int} {i : Nat} (h : plc l x = (i : Int)) : l[i]? = some x := by
  have hm := (plc_mem hn (x := x)).1 (by omega)
  obtain ⟨j, hj⟩ := List.mem_iff_getElem?.1 hm
  have := plc_at hn hj
  rw [this] at h
  have : j = i := by omega
  exact this ▸ hj
theorem plc_lt {l : List Int} {x : Int} : plc l x < l.length := (fidx_lt _ l).2
theorem plc_take {l : List Int} (hn : l.Nodup) {k : Nat} {b : Int} (hk : l[k]? = some b) (x : Int) : plc (l.take (k + 1)) x = if x = b then (k : Int) else plc (l.take k) x := by
  obtain ⟨hlt, he⟩ := List.getElem?_eq_some_iff.1 hk
  have hn1 : (l.take (k + 1)).Nodup := hn.sublist (List.take_sublist _ _)
  have hn0 : (l.take k).Nodup := hn.sublist (List.take_sublist _ _)
  by_cases e : x = b
  · subst e
    rw [if_pos rfl]
    exact plc_at hn1 (by rw [List.getElem?_take_of_lt (by omega)]; exact hk)
  · rw [if_neg e]
    by_cases hm : x ∈ l.take k
    · obtain ⟨j, hj⟩ := List.mem_iff_getElem?.1 hm
      rw [plc_at hn0 hj]
      have hjk : j < k := by
        have := (List.getElem?_eq_some_iff.1 hj).1
        simp at this; omega
      rw [List.getElem?_take_of_lt hjk] at hj
      exact plc_at hn1 (by rw [List.getElem?_take_of_lt (by omega)]; exact hj)
    · rw [plc_no hm, plc_no]
      rw [List.take_succ_eq_append_getElem hlt, he]
      simp only [List.mem_append, List.mem_singleton, not_or]
      exact ⟨hm, e⟩
structure OrdOk (T : Int → List Int) (l : List Int) : Prop where
  head : l[0]? = some 0
  nodup : l.Nodup
  mem : ∀ x, x ∈ l ↔ Reach T x
  src : ∀ x, x ∈ l → x ≠ 0 → ∃ s, plc l s < plc l x ∧ 0 ≤ plc l s ∧ x ∈ T s
theorem order_ok {bs : List SB} (h : 0 < bs.length) : OrdOk (tg bs) (orderL bs) := by
  obtain ⟨s, hk, he⟩ := left_kids bs
  have hz := kids_zero hk
  obtain ⟨nw, h1, h2, h3, h4, h5⟩ := kids_new hk
  simp only [List.nil_append] at h1
  have hl : orderL bs = 0 :: nw.reverse := by
    unfold orderL
    rw [if_neg (by omega), ← he, h1]
    simp
  have h0 : (0 : Int) ∉ nw := by
    intro hm
    have := h4 0 hm
    simp [addS] at this
  have hnd : (orderL bs).Nodup := by
    rw [hl, List.nodup_cons]
    exact ⟨by simpa using h0, List.pairwise_reverse.2 (h3.imp (fun h => fun e => h e.symm))⟩
  refine ⟨by rw [hl]; rfl, hnd, fun x => ?_, fun x hx hne => ?_⟩
  · rw [← hz x, h2 x, hl]
    simp [addS]
  · have hx' : x ∈ nw := by
      rw [hl] at hx
      simpa [hne] using hx
    obtain ⟨l1, l2, e⟩ := List.append_of_mem hx'
    have hl2 : orderL bs = (0 :: l2.reverse) ++ x :: l1.reverse := by
      rw [hl, e]
      simp
    have px : plc (orderL bs) x = ((0 :: l2.reverse).length : Int) := by
      refine plc_at hnd ?_
      rw [hl2, List.getElem?_append_right (Nat.le_refl _)]
      simp
    have py : ∀ y, y ∈ (0 : Int) :: l2.reverse → plc (orderL bs) y < plc (orderL bs) x ∧ 0 ≤ plc (orderL bs) y := by
      intro y hy
      obtain ⟨j, hj, hje⟩ := List.mem_iff_getElem.1 hy
      have : plc (orderL bs) y = (j : Int) := by
        refine plc_at hnd ?_
        rw [hl2, List.getElem?_append_left hj, List.getElem?_eq_getElem hj, hje]
      omega
    rcases h5 l1 x l2 e with h | ⟨y, hy, h⟩
    · exact ⟨0, (py 0 (by simp)).1, (py 0 (by simp)).2, h⟩
    · have := py y (by simp [hy])
      exact ⟨y, this.1, this.2, h⟩
theorem OrdOk.plc {T : Int → List Int} {l : List Int} (h : OrdOk T l) : Plc T (plc l) where
  reach := fun x => (plc_mem h.nodup).trans (h.mem x)
  zero := plc_at h.nodup h.head
  inj := fun x y hx e => by
    obtain ⟨i, hi⟩ := List.mem_iff_getElem?.1 ((plc_mem h.nodup).1 hx)
    have e1 := plc_at h.nodup hi
    have e2 := plc_get h.nodup (x := y) (i := i) (by omega)
    rw [hi] at e2
    injection e2
  src := fun x hx hne => by
    obtain ⟨s, h1, h2, h3⟩ := h.src x ((plc_mem h.nodup).1 hx) hne
    exact ⟨s, h2, h1, h3⟩
def plB (bs : List SB) (x : Int) : Int := plc (orderL bs) x
theorem plB_plc {bs : List SB} (h : 0 < bs.length) : Plc (tg bs) (plB bs) := (order_ok h).plc
theorem reach_rng {bs : List SB} (h : 0 < bs.length) {x : Int} (hx : Reach (tg bs) x) : 0 ≤ x ∧ x < (bs.length : Int) := reach_in h (fun _ _ h => tg_mem h) hx
theorem plB_rng {bs : List SB} (h : 0 < bs.length) {x : Int} (hx : 0 ≤ plB bs x) : 0 ≤ x ∧ x < (bs.length : Int) := reach_rng h (((plB_plc h).reach x).1 hx)
def atL (bs : List SB) : List Int := (List.range bs.length).map (fun i : Nat => plB bs (i : Int))
theorem atL_of (bs : List SB) : IntsOf bs.length (atL bs) (plB bs) := ⟨by simp [atL], fun i hi => by simp [atL, List.getD, hi]⟩
theorem mem_srcs {bs : List SB} {b s : Int} : s ∈ srcs bs b ↔ (0 ≤ s ∧ s < bs.length) ∧ b ∈ tg bs s := by
  simp only [srcs, srcsTo, List.mem_map, List.mem_filter, List.mem_range, List.contains_eq_mem, decide_eq_true_eq]
  constructor
  · rintro ⟨i, ⟨h1, h2⟩, rfl⟩
    exact ⟨by omega, h2⟩
  · rintro ⟨h1, h2⟩
    obtain ⟨k, rfl⟩ := Int.eq_ofNat_of_zero_le h1.1
    exact ⟨k, ⟨by omega, h2⟩, rfl⟩
theorem walk_reach {bs : List SB} {x : Int} : walkB bs (-1) x = true ↔ Reach (tg bs) x := by
  rw [walkB_reach]
  have e : ∀ y, tgb (tg bs) (-1) y = tg bs y := by
    intro y
    unfold tgb
    rw [List.filter_eq_self]
    intro t ht
    have := tg_mem ht
    simp only [Bool.not_eq_true', beq_eq_false_iff_ne, ne_eq]
    omega
  have e2 : tgb (tg bs) (-1) = tg bs := funext e
  rw [e2]
  exact ⟨fun h => h.2, fun h => ⟨by decide, h⟩⟩
theorem walk_dm {bs : List SB} {d x : Int} : walkB bs d x = false ↔ Dm (tg bs) d x := by
  unfold Dm
  rw [← walkB_reach]
  simp
theorem at2_over {bs : List SB} {d b : Nat} (hd : d < bs.length) (hb : b < bs.length) : at2 (overL bs) d b = true ↔ Reach (tg bs) (b : Int) ∧ Dm (tg bs) (d : Int) (b : Int) := by
  have : at2 (overL bs) d b = overB bs (d : Int) (b : Int) := by simp [at2, overL, List.getD, hd, hb]
  rw [this]
  simp only [overB, Bool.and_eq_true, Bool.not_eq_true']
  rw [walk_reach, walk_reach, walk_dm]
  exact ⟨fun h => h.2, fun h => ⟨Dm.reach h.1 h.2, h⟩⟩
theorem best_none {l : List (List Bool)} {b k : Nat} (h : ∀ d : Nat, d < k → d ≠ b → at2 l d b = false) : bestTo l b k = -1 := by
  induction k with
  | zero => rfl
  | succ k ih =>
    unfold bestTo
    rw [ih (fun d hd => h d (by omega))]
    refine if_neg fun hh => ?_
    rw [h k (by omega) hh.1] at hh
    exact Bool.noConfusion hh.2.1
theorem best_inv {bs : List SB} {up : Int → Int} (h0 : 0 < bs.length) (hu : Up (tg bs) (plB bs) up) (hp : ∀ x, 0 ≤ plB bs x → Prc (plB bs) up x) (hd : ∀ x d, 0 ≤ plB bs x → Anc up x d → Dm (tg bs) d x) {b : Nat} (hb : b < bs.length) (hr : 0 ≤ plB bs (b : Int)) :
    ∀ k, k ≤ bs.length → (bestTo (overL bs) b k = -1 ∧ ∀ d : Nat, d < k → d ≠ b → ¬ Dm (tg bs) (d : Int) (b : Int)) ∨
      (∃ d : Nat, bestTo (overL bs) b k = (d : Int) ∧ d < k ∧ d ≠ b ∧ Dm (tg bs) (d : Int) (b : Int) ∧ ∀ e : Nat, e < k → e ≠ b → Dm (tg bs) (e : Int) (b : Int) → Dm (tg bs) (e : Int) (d : Int)) := by
  have hP := plB_plc h0
  have hbr := (hP.reach _).1 hr
  have rd : ∀ d x, 0 ≤ plB bs x → Dm (tg bs) d x → 0 ≤ plB bs d := fun d x hx h => (hP.reach d).2 (Dm.reach ((hP.reach x).1 hx) h)
  intro k
  induction k with
  | zero => exact fun _ => .inl ⟨rfl, fun d h => by omega⟩
  | succ k ih =>
    intro hk
    have hat : at2 (overL bs) k b = true ↔ Dm (tg bs) (k : Int) (b : Int) := by
      rw [at2_over (by omega) hb]
      exact ⟨fun h => h.2, fun h => ⟨hbr, h⟩⟩
    rcases ih (by omega) with ⟨h1, h2⟩ | ⟨d, h1, h2, h3, h4, h5⟩
    · by_cases c : k ≠ b ∧ at2 (overL bs) k b = true
      · right
        refine ⟨k, ?_, by omega, c.1, hat.1 c.2, fun e he hne hd' => ?_⟩
        · unfold bestTo
          exact if_pos ⟨c.1, c.2, .inl (by omega)⟩
        · by_cases e2 : e = k
          · subst e2; exact Dm.self _
          · exact absurd hd' (h2 e (by omega) hne)
      · left
        refine ⟨?_, fun e he hne hd' => ?_⟩
        · unfold bestTo
          rw [if_neg (fun hh => c ⟨hh.1, hh.2.1⟩)]
          exact h1
        · by_cases e2 : e = k
          · subst e2; exact c ⟨hne, hat.2 hd'⟩
          · exact h2 e (by omega) hne hd'
    · have had : at2 (overL bs) d k = true ↔ Reach (tg bs) (k : Int) ∧ Dm (tg bs) (d : Int) (k : Int) := at2_over (by omega) (by omega)
      by_cases c : k ≠ b ∧ at2 (overL bs) k b = true
      · have hkb := hat.1 c.2
        have hkr := rd _ _ hr hkb
        by_cases c2 : at2 (overL bs) d k = true
        · right
          refine ⟨k, ?_, by omega, c.1, hkb, fun e he hne hd' => ?_⟩
          · unfold bestTo
            exact if_pos ⟨c.1, c.2, .inr (by rw [h1]; exact c2)⟩
          · by_cases e2 : e = k
            · subst e2; exact Dm.self _
            · have a1 := hu.anc (hp _ hkr) (had.1 c2).2
              have a2 := hu.anc (hp _ (rd _ _ hkr (had.1 c2).2)) (h5 e (by omega) hne hd')
              exact hd _ _ hkr (a1.trans a2)
        · right
          refine ⟨d, ?_, by omega, h3, h4, fun e he hne hd' => ?_⟩
          · unfold bestTo
            rw [if_neg]
            · exact h1
            · rintro ⟨_, _, hh⟩
              rw [h1] at hh
              rcases hh with hh | hh
              · omega
              · exact c2 hh
          · by_cases e2 : e = k
            · subst e2
              have hdr := rd _ _ hr h4
              rcases Anc.total (hu.anc (hp _ hr) hkb) (hu.anc (hp _ hr) h4) with t | t
              · exact absurd (had.2 ⟨(hP.reach _).1 hkr, hd _ _ hkr t⟩) c2
              · exact hd _ _ hdr t
            · exact h5 e (by omega) hne hd'
      · right
        refine ⟨d, ?_, by omega, h3, h4, fun e he hne hd' => ?_⟩
        · unfold bestTo
          rw [if_neg (fun hh => c ⟨hh.1, hh.2.1⟩)]
          exact h1
        · by_cases e2 : e = k
          · subst e2; exact absurd ⟨hne, hat.2 hd'⟩ c
          · exact h5 e (by omega) hne hd'
theorem above_end {bs : List SB} {up : Int → Int} {ab : List Int} {k : Nat} {i j : Int} (h0 : 0 < bs.length) (hr : Rnd (tg bs) (plB bs) up k i) (hk : 1 ≤ k) (hs : Stl (tg bs) (plB bs) up j) (hj : ∀ x, plB bs x ≤ j) (hab : IntsOf bs.length ab up) : ab = raboveL bs := by
  have hP := plB_plc h0
  have hp : ∀ x, 0 ≤ plB bs x → Prc (plB bs) up x := fun x h => ⟨h, by
    by_cases e : x = 0
    · exact .inl e
    · exact .inr (hr.some x h e (.inr hk))⟩
  have hd : ∀ x d, 0 ≤ plB bs x → Anc up x d → Dm (tg bs) d x := fun x d _ h => hs.dm hP hj h
  refine hab.ext ⟨by simp [raboveL, aboveOfL, overL_len], fun b hb => ?_⟩
  have e1 : (raboveL bs).getD b 0 = bestTo (overL bs) b bs.length := by
    simp [raboveL, aboveOfL, overL_len, List.getD, hb]
  rw [e1]
  have at_no : ∀ d : Nat, d < bs.length → ¬ Dm (tg bs) (d : Int) (b : Int) ∨ ¬ Reach (tg bs) (b : Int) → at2 (overL bs) d b = false := by
    intro d hdl hh
    rw [← Bool.not_eq_true]
    intro ht
    have := (at2_over hdl hb).1 ht
    rcases hh with hh | hh
    · exact hh this.2
    · exact hh this.1
  by_cases hbr : 0 ≤ plB bs (b : Int)
  · by_cases hb0 : b = 0
    · subst hb0
      rw [show up ((0 : Nat) : Int) = -1 from hr.off _ (.inr rfl)]
      refine best_none fun d hdl hne => at_no d hdl (.inl fun h => ?_)
      have := h.at_zero
      omega
    · have hb0' : (b : Int) ≠ 0 := by omega
      obtain ⟨l1, l2⟩ := hr.ok.low _ (hp _ hbr) hb0'
      have lne : up (b : Int) ≠ (b : Int) := by
        intro e
        rw [e] at l2
        omega
      have lr := plB_rng h0 l1.1
      obtain ⟨u, hu⟩ := Int.eq_ofNat_of_zero_le lr.1
      have du : Dm (tg bs) (up (b : Int)) (b : Int) := hd _ _ hbr (.step hb0' (.refl _))
      rcases best_inv h0 hr.ok hp hd hb hbr bs.length (Nat.le_refl _) with ⟨_, h2⟩ | ⟨d, h1, h2, h3, h4, h5⟩
      · exact absurd (hu ▸ du) (h2 u (by omega) (fun e => lne (by rw [hu, e])))
      · rw [h1]
        have hne : (d : Int) ≠ (b : Int) := by omega
        have d1 : Dm (tg bs) (up (b : Int)) (d : Int) := by
          rw [hu]
          exact h5 u (by omega) (fun e => lne (by rw [hu, e])) (hu ▸ du)
        have hdr : 0 ≤ plB bs (d : Int) := (hP.reach _).2 (Dm.reach ((hP.reach _).1 hbr) h4)
        have d2 : Dm (tg bs) (d : Int) (up (b : Int)) := hr.ok.dom _ _ (hp _ hbr) hb0' h4 hne
        have q1 := Dm.le hP hdr d1
        have q2 := Dm.le hP l1.1 d2
        exact hP.inj _ _ hdr (by omega)
  · rw [hr.off _ (.inl (by omega))]
    exact best_none fun d hdl _ => at_no d hdl (.inr fun h => hbr ((hP.reach _).2 h))
end Go.Mor
namespace Go.Mor
open Go.RowKit
theorem IntsOf.at_ {n : Nat} {l : List Int} {f : Int → Int} (h : IntsOf n l f) {x : Int} (h0 : 0 ≤ x) (h1 : x < n) : (ints l)[x.toNat]? = some (.int .i64 (f x)) := by
  obtain ⟨i, rfl⟩ := Int.eq_ofNat_of_zero_le h0
  have := h.get (i := i) (by omega)
  simp [ints, this]
structure Mok (T : Int → List Int) (pl up : Int → Int) (n : Nat) (atl ab : List Int) : Prop where
  plc : Plc T pl
  ok : Up T pl up
  rng : ∀ x, 0 ≤ pl x → 0 ≤ x ∧ x < (n : Int)
  hat : IntsOf n atl pl
  hab : IntsOf n ab up
section
variable {T : Int → List Int} {pl up : Int → Int} {n : Nat} {atl ab : List Int}
theorem Mok.at0 (h : Mok T pl up n atl ab) {x : Int} (hx : Prc pl up x) : (ints atl)[x.toNat]? = some (.int .i64 (pl x)) := h.hat.at_ (h.rng x hx.1).1 (h.rng x hx.1).2
theorem Mok.up0 (h : Mok T pl up n atl ab) {x : Int} (hx : Prc pl up x) : (ints ab)[x.toNat]? = some (.int .i64 (up x)) := h.hab.at_ (h.rng x hx.1).1 (h.rng x hx.1).2
theorem Mok.ne0 (h : Mok T pl up n atl ab) {a b : Int} (hb : Prc pl up b) (hlt : pl a > pl b) : a ≠ 0 := by
  rintro rfl
  rw [h.plc.zero] at hlt
  have := hb.1
  omega
theorem meet_dec (h : Mok T pl up n atl ab) {a b a2 b2 : Int} (ha : Prc pl up a) (ha2 : Prc pl up a2) (hb2 : Prc pl up b2) (hne : a ≠ b) (h1 : a2 = a ∨ pl a2 < pl a) (h2 : b2 = b ∨ pl b2 < pl b) (g1 : ¬ pl a2 > pl b) (g2 : ¬ pl b2 > pl a2) :
    (pl a2 + pl b2).toNat < (pl a + pl b).toNat := by
  have p1 := ha2.1
  have p2 := hb2.1
  rcases h1 with rfl | h1
  · rcases h2 with rfl | h2
    · exact absurd (h.plc.inj _ _ ha.1 (by omega)) hne
    · omega
  · rcases h2 with rfl | h2 <;> omega
end
end Go.Mor
namespace Go.Mor
open Go.RowKit
theorem orderL_len (bs : List SB) : (orderL bs).length ≤ bs.length := by
  unfold orderL
  split
  · simp
  · rw [List.length_reverse]
    exact leftL_len (by omega)
theorem ord_get {bs : List SB} {k : Nat} (hk : k < (orderL bs).length) : ∃ bi : Nat, (orderL bs)[k]? = some (bi : Int) ∧ bi < bs.length ∧ plB bs (bi : Int) = (k : Int) := by
  have hl := orderL_len bs
  have ho := order_ok (bs := bs) (by omega)
  have hg : (orderL bs)[k]? = some (orderL bs)[k] := List.getElem?_eq_getElem hk
  have hr := reach_rng (by omega) ((ho.mem _).1 (List.mem_of_getElem? hg))
  obtain ⟨q, hq⟩ := Int.eq_ofNat_of_zero_le hr.1
  rw [hq] at hg
  exact ⟨q, hg, by omega, plc_at ho.nodup hg⟩
theorem ord_drop {bs : List SB} {j : Nat} (hk : j + 1 < (orderL bs).length) : ∃ bi : Nat, ((orderL bs).drop 1)[j]? = some (bi : Int) ∧ bi < bs.length ∧ plB bs (bi : Int) = (j : Int) + 1 := by
  obtain ⟨bi, h1, h2, h3⟩ := ord_get hk
  exact ⟨bi, by rw [List.getElem?_drop, Nat.add_comm]; exact h1, h2, by omega⟩
theorem rd_tail {w : World} {ad : Addr} {l : List Int} (h : (Res.rd (some ad) (ints l)).holds w) : (Res.rd (some (ad.add (1 * 1))) (ints (l.drop 1))).holds w := by
  have := rd_drop h 1
  simpa [ints] using this
theorem places_start (bs : List SB) {l : List Int} (h : IntsOf bs.length l (fun _ => -1)) : IntsOf bs.length l (plc ((orderL bs).take 0)) := h.congr (fun i _ => (plc_no (by simp)).symm)
theorem places_next {bs : List SB} {l : List Int} {k bi : Nat} (h : IntsOf bs.length l (plc ((orderL bs).take k))) (hk : (orderL bs)[k]? = some (bi : Int)) (hb : bi < bs.length) : IntsOf bs.length (l.set bi (k : Int)) (plc ((orderL bs).take (k + 1))) := by
  have hlt := (List.getElem?_eq_some_iff.1 hk).1
  have hl := orderL_len bs
  have ho := order_ok (bs := bs) (by omega)
  refine h.set hb ?_ fun j _ hne => ?_
  · rw [plc_take ho.nodup hk, if_pos rfl]
  · rw [plc_take ho.nodup hk, if_neg (by omega)]
theorem places_end {bs : List SB} {l : List Int} {k : Nat} (h : IntsOf bs.length l (plc ((orderL bs).take k))) (hk : (orderL bs).length ≤ k) : IntsOf bs.length l (plB bs) := by
  rw [List.take_of_length_le hk] at h
  exact h
theorem take_snoc {l : List Int} {q : Nat} {x : Int} (h : l[q]? = some x) : l.take (q + 1) = l.take q ++ [x] := by
  obtain ⟨hlt, he⟩ := List.getElem?_eq_some_iff.1 h
  rw [List.take_succ_eq_append_getElem hlt, he]
theorem srcs_at {bs : List SB} {b : Int} {q : Nat} (h : q < (srcs bs b).length) : ∃ si : Nat, (srcs bs b)[q]? = some (si : Int) ∧ si < bs.length := by
  have h1 := srcs_mem (List.getElem_mem h)
  obtain ⟨k, he⟩ := Int.eq_ofNat_of_zero_le h1.1
  exact ⟨k, by rw [List.getElem?_eq_getElem h, he], by omega⟩
theorem src_iff {bs : List SB} (h : 0 < bs.length) {b : Int} : ∀ s, 0 ≤ plB bs s → (s ∈ srcs bs b ↔ b ∈ tg bs s) := fun s hs => by
  rw [mem_srcs]
  exact ⟨fun h => h.2, fun hb => ⟨plB_rng h hs, hb⟩⟩
theorem plB_lt (bs : List SB) (x : Int) : plB bs x < (orderL bs).length := plc_lt
theorem ab_end {bs : List SB} {up : Int → Int} {ab : List Int} {k : Nat} {j : Int} (hr : 0 < bs.length → Rnd (tg bs) (plB bs) up k 0) (hk : 1 ≤ k) (hs : Stl (tg bs) (plB bs) up j) (hj : ∀ x, plB bs x ≤ j) (hab : IntsOf bs.length ab up) : ab = raboveL bs := by
  rcases Nat.eq_zero_or_pos bs.length with h0 | h0
  · have e1 : ab = [] := List.eq_nil_of_length_eq_zero (by rw [hab.1, h0])
    have e2 : raboveL bs = [] := List.eq_nil_of_length_eq_zero (by simp [raboveL, aboveOfL, overL_len, h0])
    rw [e1, e2]
  · exact above_end h0 (hr h0) hk hs hj hab
theorem lim_next {n k : Nat} {b : Bool} (hf : n + 2 ≤ k → b = false) (h : b = true) : k + 1 ≤ n + 2 := by
  by_cases h8 : n + 2 ≤ k
  · rw [hf h8] at h
    cases h
  · omega
theorem raboveL_len (bs : List SB) : (raboveL bs).length = bs.length := by simp [raboveL, aboveOfL, overL_len]
theorem atL_len (bs : List SB) : (atL bs).length = bs.length := by simp [atL]
theorem Rnd.keep {bs : List SB} {up : Int → Int} {k : Nat} {j b to : Int} (h : Rnd (tg bs) (plB bs) up k j) (hb : plB bs b = j + 1) (hto : 0 ≤ to) (he : up b = to) (ha : ∀ s, Prc (plB bs) up s → b ∈ tg bs s → Anc up s to) :
    ∀ s, 0 ≤ plB bs s → b ∈ tg bs s → Anc up s (up b) := by
  intro s hs hx
  rw [he]
  refine ha s ⟨hs, ?_⟩ hx
  by_cases e : s = 0
  · exact .inl e
  · refine .inr (h.some s hs e (.inr ?_))
    by_cases hk : k = 0
    · have := h.non hk b (by omega)
      omega
    · omega
end Go.Mor
namespace Go.Mor
open Go.RowKit
structure FinU (bs : List SB) (up : Int → Int) : Prop where
  of : IntsOf bs.length (raboveL bs) up
  ok : Up (tg bs) (plB bs) up
  prc : ∀ x, 0 ≤ plB bs x → Prc (plB bs) up x
  off : ∀ x, (plB bs x < 0 ∨ x = 0) → up x = -1
  dm : ∀ x d, Anc up x d → Dm (tg bs) d x
def FinUp (bs : List SB) : Prop := 0 < bs.length → ∃ up, FinU bs up
theorem fin_up {bs : List SB} {up : Int → Int} {ab : List Int} {k : Nat} {j : Int} (hr : 0 < bs.length → Rnd (tg bs) (plB bs) up k 0) (hk : 1 ≤ k) (hs : Stl (tg bs) (plB bs) up j) (hj : ∀ x, plB bs x ≤ j) (hab : IntsOf bs.length ab up) : FinUp bs := by
  intro h0
  have hr0 := hr h0
  refine ⟨up, ab_end hr hk hs hj hab ▸ hab, hr0.ok, fun x h => ⟨h, ?_⟩, hr0.off, fun x d h => hs.dm (plB_plc h0) hj h⟩
  by_cases e : x = 0
  · exact .inl e
  · exact .inr (hr0.some x h e (.inr hk))
section
variable {bs : List SB} {up : Int → Int}
end
end Go.Mor
namespace Go.Mor
open Go.RowKit
abbrev Recs := List (Int × Nat × Nat)
mutual
inductive Vis (K : Int → List Int) : Int → Nat → Nat → Recs → Prop
  | mk {b : Int} {n m : Nat} {r : Recs} : VisL K (K b) (n + 1) m r → Vis K b n (m + 1) (r ++ [(b, n + 1, m + 1)])
inductive VisL (K : Int → List Int) : List Int → Nat → Nat → Recs → Prop
  | nil {n : Nat} : VisL K [] n n []
  | snoc {l : List Int} {c : Int} {n m p : Nat} {r s : Recs} : VisL K l n m r → Vis K c m p s → VisL K (l ++ [c]) n p (r ++ s)
end
structure TreeU (K : Int → List Int) (pl up : Int → Int) : Prop where
  kid : ∀ b c, c ∈ K b → up c = b ∧ c ≠ 0 ∧ pl b < pl c
  nod : ∀ b, (K b).Nodup
section
variable {K : Int → List Int} {pl up : Int → Int}
theorem TreeU.anc (h : TreeU K pl up) {b c : Int} (hc : c ∈ K b) : Anc up c b := .step (h.kid b c hc).2.1 (by rw [(h.kid b c hc).1]; exact .refl _)
mutual
theorem Vis.facts (h : TreeU K pl up) {b : Int} {n m : Nat} {r : Recs} : Vis K b n m r → (∀ x i o, (x, i, o) ∈ r → Anc up x b ∧ n < i ∧ i < o ∧ o ≤ m) ∧ n < m
  | .mk (m := m) hl => by
    have ih := VisL.facts h hl
    constructor
    · intro x i o hx
      rcases List.mem_append.1 hx with hx | hx
      · obtain ⟨⟨c, hc, ha⟩, h1, h2, h3⟩ := ih.1 x i o hx
        exact ⟨ha.trans (h.anc hc), by omega, h2, by omega⟩
      · simp only [List.mem_singleton, Prod.mk.injEq] at hx
        obtain ⟨rfl, rfl, rfl⟩ := hx
        have := ih.2
        exact ⟨.refl _, by omega, by omega, by omega⟩
    · have := ih.2; omega
theorem VisL.facts (h : TreeU K pl up) {l : List Int} {n m : Nat} {r : Recs} : VisL K l n m r → (∀ x i o, (x, i, o) ∈ r → (∃ c, c ∈ l ∧ Anc up x c) ∧ n < i ∧ i < o ∧ o ≤ m) ∧ n ≤ m
  | .nil => ⟨fun x i o hx => by simp at hx, Nat.le_refl _⟩
  | .snoc (l := l) (c := c) (m := m0) hl hv => by
    have i1 := VisL.facts h hl
    have i2 := Vis.facts h hv
    refine ⟨fun x i o hx => ?_, by have := i1.2; have := i2.2; omega⟩
    rcases List.mem_append.1 hx with hx | hx
    · obtain ⟨⟨c', hc, ha⟩, h1, h2, h3⟩ := i1.1 x i o hx
      have := i2.2
      exact ⟨⟨c', List.mem_append_left _ hc, ha⟩, h1, h2, by omega⟩
    · obtain ⟨ha, h1, h2, h3⟩ := i2.1 x i o hx
      have := i1.2
      exact ⟨⟨c, by simp, ha⟩, by omega, h2, h3⟩
end
theorem Anc.chain {x a b : Int} (ha : Anc up x a) (hb : Anc up x b) : Anc up a b ∨ Anc up b a := by
  induction ha with
  | refl => exact .inl hb
  | @step x d hne h ih =>
    cases hb with
    | refl => exact .inr (.step hne h)
    | step _ hb => exact ih hb
theorem TreeU.sub (h : TreeU K pl up) {b c c' y : Int} (hc : c ∈ K b) (hc' : c' ∈ K b) (hp : ∀ x d, Anc up x d → 0 ≤ pl x → pl d ≤ pl x) (hb : 0 ≤ pl b) (h1 : Anc up y c) (h2 : Anc up y c') : c = c' := by
  have key : ∀ c c', c ∈ K b → c' ∈ K b → Anc up c c' → c = c' := by
    intro c c' hc hc' ha
    cases ha with
    | refl => rfl
    | step hne ha =>
      rw [(h.kid b c hc).1] at ha
      have := hp _ _ ha hb
      have := (h.kid b c' hc').2.2
      omega
  rcases Anc.chain h1 h2 with h3 | h3
  · exact key c c' hc hc' h3
  · exact (key c' c hc' hc h3).symm
structure TreeP (K : Int → List Int) (pl up : Int → Int) : Prop extends TreeU K pl up where
  le : ∀ x d, Anc up x d → 0 ≤ pl x → pl d ≤ pl x
  pos : ∀ b, 0 ≤ pl b → ∀ c, c ∈ K b → 0 ≤ pl c
  neg : ∀ x d, pl x < 0 → 0 ≤ pl d → ¬ Anc up x d
mutual
theorem Vis.hold (h : TreeP K pl up) {b : Int} (hb : 0 ≤ pl b) {n m : Nat} {r : Recs} : Vis K b n m r → ∀ x i o y i' o', (x, i, o) ∈ r → (y, i', o') ∈ r → ((i ≤ i' ∧ o' ≤ o) ↔ Anc up y x)
  | .mk (m := m) (r := r) hl => by
    intro x i o y i' o' hx hy
    have f := VisL.facts h.toTreeU hl
    rcases List.mem_append.1 hx with x1 | x1 <;> rcases List.mem_append.1 hy with y1 | y1
    · exact VisL.hold h hb (fun c hc => hc) (h.nod b) hl x i o y i' o' x1 y1
    · simp only [List.mem_singleton, Prod.mk.injEq] at y1
      obtain ⟨e1, e2, e3⟩ := y1
      obtain ⟨⟨c, hc, ha⟩, h1, h2, h3⟩ := f.1 x i o x1
      constructor
      · intro hh; omega
      · intro hh
        rw [e1] at hh
        have h4 := (h.kid _ _ hc).2.2
        have h5 := h.le _ _ hh hb
        have h6 := h.pos b hb c hc
        have h7 := h.le _ _ (hh.trans ha) hb
        omega
    · simp only [List.mem_singleton, Prod.mk.injEq] at x1
      obtain ⟨e1, e2, e3⟩ := x1
      obtain ⟨⟨c, hc, ha⟩, h1, h2, h3⟩ := f.1 y i' o' y1
      rw [e1]
      exact ⟨fun _ => ha.trans (h.anc hc), fun _ => ⟨by omega, by omega⟩⟩
    · simp only [List.mem_singleton, Prod.mk.injEq] at x1 y1
      obtain ⟨e1, e2, e3⟩ := x1
      obtain ⟨e4, e5, e6⟩ := y1
      rw [e1, e4]
      exact ⟨fun _ => .refl _, fun _ => ⟨by omega, by omega⟩⟩
theorem VisL.hold (h : TreeP K pl up) {b : Int} (hb : 0 ≤ pl b) {l : List Int} (hsub : ∀ c, c ∈ l → c ∈ K b) (hnd : l.Nodup) {n m : Nat} {r : Recs} : VisL K l n m r → (∀ x i o y i' o', (x, i, o) ∈ r → (y, i', o') ∈ r → ((i ≤ i' ∧ o' ≤ o) ↔ Anc up y x))
  | .nil => fun x i o y i' o' hx _ => by simp at hx
  | .snoc (l := l) (c := c) hl hv => by
    have f1 := VisL.facts h.toTreeU hl
    have f2 := Vis.facts h.toTreeU hv
    have hcK := hsub c (by simp)
    have hcp := h.pos b hb c hcK
    rw [List.nodup_append] at hnd
    have apart : ∀ y, Anc up y c → ∀ c', c' ∈ l → ¬ Anc up y c' := by
      intro y h1 c' hc' h2
      have := h.sub hcK (hsub c' (List.mem_append_left _ hc')) h.le hb h1 h2
      exact hnd.2.2 c' hc' c (by simp) this.symm
    intro x i o y i' o' hx hy
    rcases List.mem_append.1 hx with x1 | x1 <;> rcases List.mem_append.1 hy with y1 | y1
    · exact VisL.hold h hb (fun c hc => hsub c (List.mem_append_left _ hc)) hnd.1 hl x i o y i' o' x1 y1
    · obtain ⟨⟨c', hc', ha⟩, h1, h2, h3⟩ := f1.1 x i o x1
      obtain ⟨hb', h4, h5, h6⟩ := f2.1 y i' o' y1
      constructor
      · intro hh; omega
      · intro hh
        exact absurd (hh.trans ha) (apart y hb' c' hc')
    · obtain ⟨⟨c', hc', ha⟩, h1, h2, h3⟩ := f1.1 y i' o' y1
      obtain ⟨hb', h4, h5, h6⟩ := f2.1 x i o x1
      constructor
      · intro hh; omega
      · intro hh
        exact absurd ha (apart y (hh.trans hb') c' hc')
    · exact Vis.hold h hcp hv x i o y i' o' x1 y1
end
end
end Go.Mor
namespace Go.Mor
open Go.RowKit
def cntT (bs : List SB) (k : Nat) : Nat := ((List.range k).filter (fun i : Nat => walkB bs (-1) (i : Int))).length
theorem nodup_cast {l : List Nat} (h : l.Nodup) : (l.map (fun i : Nat => (i : Int))).Nodup := by
  rw [List.Nodup, List.pairwise_map]
  exact h.imp (fun h e => h (by omega))
theorem cnt_end (bs : List SB) : cntT bs bs.length = (orderL bs).length := by
  by_cases h0 : bs.length = 0
  · unfold cntT orderL
    rw [if_pos h0, h0]; rfl
  · have ho := order_ok (bs := bs) (by omega)
    have hn : (((List.range bs.length).filter (fun i : Nat => walkB bs (-1) (i : Int))).map (fun i : Nat => (i : Int))).Nodup := nodup_cast (List.nodup_range.sublist List.filter_sublist)
    have hp := (List.perm_ext_iff_of_nodup ho.nodup hn).2 (fun x => by
      rw [ho.mem x]
      constructor
      · intro hx
        obtain ⟨h1, h2⟩ := reach_rng (by omega) hx
        exact List.mem_map.2 ⟨x.toNat, List.mem_filter.2 ⟨List.mem_range.2 (by omega), by rw [Int.toNat_of_nonneg h1]; exact walk_reach.2 hx⟩, Int.toNat_of_nonneg h1⟩
      · intro hx
        obtain ⟨i, hi, rfl⟩ := List.mem_map.1 hx
        exact walk_reach.1 (List.mem_filter.1 hi).2)
    rw [hp.length_eq, List.length_map]; rfl
theorem at_eq {n : Nat} {l : List Int} {f : Int → Int} (h : IntsOf n l f) {x v : Int} (h0 : 0 ≤ x) (h1 : x < n) (e : f x = v) : (ints l)[x.toNat]? = some (.int .i64 v) := by rw [← e]; exact h.at_ h0 h1
end Go.Mor
namespace Go.Mor
open Go.RowKit
inductive Low (K : Int → List Int) : List (Int × Int) → Int → Nat → List (Int × Nat) → Recs → Prop
  | nil : Low K [] 0 0 [] []
  | snoc {ws : List (Int × Int)} {b c : Int} {n0 n1 j : Nat} {op : List (Int × Nat)} {rs r : Recs} : Low K ws b n0 op rs → VisL K ((K b).take j) (n0 + 1) n1 r → (K b)[j]? = some c →
      Low K (ws ++ [(b, (j : Int) + 1)]) c n1 (op ++ [(b, n0 + 1)]) (rs ++ r)
def ArrIn (f : Int → Int) (op : List (Int × Nat)) (rs : Recs) : Prop := ∀ x : Int, (∀ i : Nat, (x, i) ∈ op → f x = i) ∧ (∀ i o : Nat, (x, i, o) ∈ rs → f x = i) ∧ ((∀ i : Nat, (x, i) ∉ op) → (∀ i o : Nat, (x, i, o) ∉ rs) → f x = 0)
def ArrOut (g : Int → Int) (rs : Recs) : Prop := ∀ x : Int, (∀ i o : Nat, (x, i, o) ∈ rs → g x = o) ∧ ((∀ i o : Nat, (x, i, o) ∉ rs) → g x = 0)
def updF (f : Int → Int) (b v : Int) : Int → Int := fun x => if x = b then v else f x
section
variable {K : Int → List Int} {pl up : Int → Int}
theorem VisL.len {l : List Int} {n m : Nat} {r : Recs} (h : VisL K l n m r) : m = n + 2 * r.length := by
  refine VisL.rec (motive_1 := fun _ n m r _ => m = n + 2 * r.length) (motive_2 := fun _ n m r _ => m = n + 2 * r.length) ?_ ?_ ?_ h
  · intro b n m r _ ih
    simp only [List.length_append, List.length_cons, List.length_nil]
    omega
  · intro n; simp
  · intro l c n m p r s _ _ i1 i2
    simp only [List.length_append]
    omega
mutual
theorem Vis.nod (h : TreeP K pl up) {b : Int} (hb : 0 ≤ pl b) {n m : Nat} {r : Recs} : Vis K b n m r → (r.map (·.1)).Nodup
  | .mk (m := m) (r := r) hl => by
    have f := VisL.facts h.toTreeU hl
    rw [List.map_append, List.nodup_append]
    refine ⟨VisL.nod h hb (fun c hc => hc) (h.nod b) hl, by simp, fun x hx y hy e => ?_⟩
    simp at hy
    subst hy
    subst e
    obtain ⟨⟨x, i, o⟩, mx, rfl⟩ := List.mem_map.1 hx
    obtain ⟨⟨c, hc, ha⟩, _⟩ := f.1 x i o mx
    have h4 := (h.kid _ _ hc).2.2
    have h5 := h.le _ _ ha hb
    simp only at h4
    omega
theorem VisL.nod (h : TreeP K pl up) {b : Int} (hb : 0 ≤ pl b) {l : List Int} (hsub : ∀ c, c ∈ l → c ∈ K b) (hnd : l.Nodup) {n m : Nat} {r : Recs} : VisL K l n m r → (r.map (·.1)).Nodup
  | .nil => by simp
  | .snoc (l := l) (c := c) hl hv => by
    have f1 := VisL.facts h.toTreeU hl
    have f2 := Vis.facts h.toTreeU hv
    have hcK := hsub c (by simp)
    rw [List.nodup_append] at hnd
    rw [List.map_append, List.nodup_append]
    refine ⟨VisL.nod h hb (fun c hc => hsub c (List.mem_append_left _ hc)) hnd.1 hl, Vis.nod h (h.pos b hb c hcK) hv, fun x hx y hy e => ?_⟩
    obtain ⟨⟨x, i, o⟩, mx, rfl⟩ := List.mem_map.1 hx
    obtain ⟨⟨y, i', o'⟩, my, rfl⟩ := List.mem_map.1 hy
    simp only at e
    subst e
    obtain ⟨⟨c', hc', ha⟩, _⟩ := f1.1 x i o mx
    obtain ⟨hb', _⟩ := f2.1 x i' o' my
    have := h.sub hcK (hsub c' (List.mem_append_left _ hc')) h.le hb hb' ha
    exact hnd.2.2 c' hc' c (by simp) this.symm
end
theorem Low.facts (h : TreeP K pl up) (h0 : 0 ≤ pl 0) {ws : List (Int × Int)} {b : Int} {n0 : Nat} {op : List (Int × Nat)} {rs : Recs} (hl : Low K ws b n0 op rs) :
    0 ≤ pl b ∧ (∀ x i, (x, i) ∈ op → Anc up b x ∧ pl x < pl b ∧ 0 ≤ pl x ∧ 1 ≤ i) ∧ (∀ x i o, (x, i, o) ∈ rs → ¬ Anc up x b ∧ 0 ≤ pl x) ∧ (op.map (·.1) ++ rs.map (·.1)).Nodup ∧ n0 = op.length + 2 * rs.length := by
  induction hl with
  | nil => exact ⟨h0, by simp, by simp, by simp, by simp⟩
  | @snoc ws b c n0 n1 j op rs r hl hv hc ih =>
    obtain ⟨hb, h1, h2, h3, h4⟩ := ih
    have hcK : c ∈ K b := List.mem_of_getElem? hc
    have hcp := h.pos b hb c hcK
    have hk := h.kid b c hcK
    have hsub : ∀ x, x ∈ (K b).take j → x ∈ K b := fun x hx => List.mem_of_mem_take hx
    have fr := VisL.facts h.toTreeU hv
    have hnot : ∀ x, x ∈ (K b).take j → x ≠ c := by
      rintro x hx rfl
      obtain ⟨i, hi, he⟩ := List.mem_take_iff_getElem.1 hx
      have hi' : (K b)[i]? = some x := by rw [List.getElem?_eq_getElem (by omega), he]
      have hd := h.nod b
      obtain ⟨hj, hje⟩ := List.getElem?_eq_some_iff.1 hc
      have := (List.nodup_iff_pairwise_ne.1 hd)
      rw [List.pairwise_iff_getElem] at this
      exact this i j (by omega) hj (by omega) (by rw [he, hje])
    have hr : ∀ x i o, (x, i, o) ∈ r → ¬ Anc up x c ∧ Anc up x b ∧ 0 ≤ pl x ∧ x ≠ b := by
      intro x i o hx
      obtain ⟨⟨c', hc', ha⟩, _⟩ := fr.1 x i o hx
      have hk' := h.kid b c' (hsub c' hc')
      refine ⟨fun ha' => hnot c' hc' (h.sub (hsub c' hc') hcK h.le hb ha ha'), ha.trans (h.anc (hsub c' hc')), ?_, ?_⟩
      · rcases Int.lt_or_le (pl x) 0 with h7 | h7
        · exfalso
          exact absurd ha (h.neg x c' h7 (h.pos b hb c' (hsub c' hc')))
        · exact h7
      · rintro rfl
        have := h.le _ _ ha hb
        omega
    refine ⟨hcp, fun x i hx => ?_, fun x i o hx => ?_, ?_, ?_⟩
    · rcases List.mem_append.1 hx with hx | hx
      · obtain ⟨a1, a2, a3, a4⟩ := h1 x i hx
        exact ⟨(h.anc hcK).trans a1, by omega, a3, a4⟩
      · simp only [List.mem_singleton, Prod.mk.injEq] at hx
        obtain ⟨rfl, rfl⟩ := hx
        exact ⟨h.anc hcK, hk.2.2, hb, by omega⟩
    · rcases List.mem_append.1 hx with hx | hx
      · obtain ⟨a1, a2⟩ := h2 x i o hx
        refine ⟨fun ha => ?_, a2⟩
        exact a1 (ha.trans (h.anc hcK))
      · exact ⟨(hr x i o hx).1, (hr x i o hx).2.2.1⟩
    · rw [List.nodup_append] at h3
      rw [List.map_append, List.map_append, List.nodup_append, List.nodup_append, List.nodup_append]
      refine ⟨⟨h3.1, by simp, fun x hx y hy e => ?_⟩, ⟨h3.2.1, VisL.nod h hb hsub ((h.nod b).sublist (List.take_sublist _ _)) hv, fun x hx y hy e => ?_⟩, fun x hx y hy e => ?_⟩
      · simp at hy
        subst hy
        subst e
        obtain ⟨⟨x, i⟩, mx, rfl⟩ := List.mem_map.1 hx
        have := (h1 x i mx).2.1
        simp only at this
        omega
      · obtain ⟨⟨x, i, o⟩, mx, rfl⟩ := List.mem_map.1 hx
        obtain ⟨⟨y, i', o'⟩, my, rfl⟩ := List.mem_map.1 hy
        simp only at e
        subst e
        exact (h2 x i o mx).1 (hr x i' o' my).2.1
      · rcases List.mem_append.1 hx with hx | hx <;> rcases List.mem_append.1 hy with hy | hy
        · exact h3.2.2 x hx y hy e
        · obtain ⟨⟨x, i⟩, mx, rfl⟩ := List.mem_map.1 hx
          obtain ⟨⟨y, i', o'⟩, my, rfl⟩ := List.mem_map.1 hy
          simp only at e
          subst e
          have a1 := (hr x i' o' my).2.1
          have a2 := h.le _ _ a1 (hr x i' o' my).2.2.1
          have := (h1 x i mx).2.1
          omega
        · simp at hx
          subst hx
          subst e
          obtain ⟨⟨y, i', o'⟩, my, rfl⟩ := List.mem_map.1 hy
          exact (h2 y i' o' my).1 (.refl _)
        · simp at hx
          subst hx
          subst e
          obtain ⟨⟨y, i', o'⟩, my, rfl⟩ := List.mem_map.1 hy
          exact (hr y i' o' my).2.2.2 rfl
    · have := VisL.len hv
      simp only [List.length_append, List.length_cons, List.length_nil]
      omega
end
end Go.Mor
namespace Go.Mor
open Go.RowKit
def UNS (K : Int → List Int) (ws : List (Int × Int)) (b : Int) (n : Nat) (f g : Int → Int) : Prop := ∃ op rs, Low K ws b n op rs ∧ ArrIn f op rs ∧ ArrOut g rs
def STA (K : Int → List Int) (ws : List (Int × Int)) (b : Int) (k n : Nat) (f g : Int → Int) : Prop :=
  ∃ op rs n0 r, Low K ws b n0 op rs ∧ VisL K ((K b).take k) (n0 + 1) n r ∧ k ≤ (K b).length ∧ ArrIn f (op ++ [(b, n0 + 1)]) (rs ++ r) ∧ ArrOut g (rs ++ r)
def FIN (K : Int → List Int) (n : Nat) (f g : Int → Int) : Prop := ∃ rs, Vis K 0 0 n rs ∧ ArrIn f [] rs ∧ ArrOut g rs
def HEAD (K : Int → List Int) (way : List (Int × Int)) (n : Nat) (f g : Int → Int) : Prop :=
  (way = [] ∧ FIN K n f g) ∨ ∃ (ws : List (Int × Int)) (b : Int) (k : Nat), way = ws ++ [(b, (k : Int))] ∧ ((k = 0 ∧ UNS K ws b n f g) ∨ (1 ≤ k ∧ STA K ws b k n f g))
section
variable {K : Int → List Int} {pl up : Int → Int} {ws : List (Int × Int)} {b : Int} {n k : Nat} {f g : Int → Int}
theorem UNS.start (h : TreeP K pl up) (h0 : 0 ≤ pl 0) (hu : UNS K ws b n f g) : STA K ws b 0 (n + 1) (updF f b ((n : Int) + 1)) g := by
  obtain ⟨op, rs, hl, hf, hg⟩ := hu
  obtain ⟨f1, f2, f3, f4, f5⟩ := hl.facts h h0
  refine ⟨op, rs, n, [], hl, by rw [List.take_zero]; exact .nil, Nat.zero_le _, ?_, by rw [List.append_nil]; exact hg⟩
  rw [List.append_nil]
  intro x
  unfold updF
  by_cases e : x = b
  · subst e
    rw [if_pos rfl]
    refine ⟨fun i hi => ?_, fun i o hi => ?_, fun hi _ => ?_⟩
    · rcases List.mem_append.1 hi with hi | hi
      · have := (f2 x i hi).2.1; omega
      · simp only [List.mem_singleton, Prod.mk.injEq] at hi
        obtain ⟨_, rfl⟩ := hi
        simp
    · exact absurd (.refl _) (f3 x i o hi).1
    · exact absurd (by simp : (x, n + 1) ∈ op ++ [(x, n + 1)]) (hi (n + 1))
  · rw [if_neg e]
    refine ⟨fun i hi => ?_, (hf x).2.1, fun hi hj => (hf x).2.2 (fun i hm => hi i (List.mem_append_left _ hm)) hj⟩
    rcases List.mem_append.1 hi with hi | hi
    · exact (hf x).1 i hi
    · simp only [List.mem_singleton, Prod.mk.injEq] at hi
      exact absurd hi.1 e
theorem STA.pos (h : TreeP K pl up) (h0 : 0 ≤ pl 0) (hs : STA K ws b k n f g) : 0 ≤ pl b := by
  obtain ⟨op, rs, n0, r, hl, _⟩ := hs
  exact (hl.facts h h0).1
theorem UNS.pos (h : TreeP K pl up) (h0 : 0 ≤ pl 0) (hs : UNS K ws b n f g) : 0 ≤ pl b := by
  obtain ⟨op, rs, hl, _⟩ := hs
  exact (hl.facts h h0).1
theorem STA.push (hs : STA K ws b k n f g) {c : Int} (hc : (K b)[k]? = some c) : UNS K (ws ++ [(b, (k : Int) + 1)]) c n f g := by
  obtain ⟨op, rs, n0, r, hl, hv, hk, hf, hg⟩ := hs
  exact ⟨_, _, .snoc hl hv hc, hf, hg⟩
theorem STA.finish (h : TreeP K pl up) (h0 : 0 ≤ pl 0) (hs : STA K ws b (K b).length n f g) : HEAD K ws (n + 1) f (updF g b ((n : Int) + 1)) := by
  obtain ⟨op, rs, n0, r, hl, hv, hk, hf, hg⟩ := hs
  obtain ⟨f1, f2, f3, f4, f5⟩ := hl.facts h h0
  rw [List.take_length] at hv
  have fr := VisL.facts h.toTreeU hv
  have hvis : Vis K b n0 (n + 1) (r ++ [(b, n0 + 1, n + 1)]) := .mk hv
  have hnr : ∀ i o : Nat, (b, i, o) ∉ rs ++ r := by
    intro i o hm
    rcases List.mem_append.1 hm with hm | hm
    · exact (f3 b i o hm).1 (.refl _)
    · obtain ⟨⟨c, hc, ha⟩, _⟩ := fr.1 b i o hm
      have := h.le _ _ ha f1
      have := (h.kid b c hc).2.2
      omega
  have hf' : ArrIn f op (rs ++ (r ++ [(b, n0 + 1, n + 1)])) := by
    intro x
    refine ⟨fun i hi => (hf x).1 i (List.mem_append_left _ hi), fun i o hi => ?_, fun hi hj => (hf x).2.2 (fun i hm => ?_) (fun i o hm => hj i o ?_)⟩
    · rw [← List.append_assoc] at hi
      rcases List.mem_append.1 hi with hi | hi
      · exact (hf x).2.1 i o hi
      · simp only [List.mem_singleton, Prod.mk.injEq] at hi
        obtain ⟨rfl, rfl, rfl⟩ := hi
        exact (hf x).1 (n0 + 1) (by simp)
    · rcases List.mem_append.1 hm with hm | hm
      · exact hi i hm
      · simp only [List.mem_singleton, Prod.mk.injEq] at hm
        obtain ⟨rfl, rfl⟩ := hm
        exact hj (n0 + 1) (n + 1) (by simp)
    · rw [← List.append_assoc]; exact List.mem_append_left _ hm
  have hg' : ArrOut (updF g b ((n : Int) + 1)) (rs ++ (r ++ [(b, n0 + 1, n + 1)])) := by
    intro x
    unfold updF
    rw [← List.append_assoc]
    by_cases e : x = b
    · subst e
      rw [if_pos rfl]
      refine ⟨fun i o hi => ?_, fun hi => absurd (by simp : (x, n0 + 1, n + 1) ∈ rs ++ r ++ [(x, n0 + 1, n + 1)]) (hi _ _)⟩
      rcases List.mem_append.1 hi with hi | hi
      · exact absurd hi (hnr i o)
      · simp only [List.mem_singleton, Prod.mk.injEq] at hi
        obtain ⟨_, _, rfl⟩ := hi
        simp
    · rw [if_neg e]
      refine ⟨fun i o hi => ?_, fun hi => (hg x).2 (fun i o hm => hi i o (List.mem_append_left _ hm))⟩
      rcases List.mem_append.1 hi with hi | hi
      · exact (hg x).1 i o hi
      · simp only [List.mem_singleton, Prod.mk.injEq] at hi
        exact absurd hi.1 e
  cases hl with
  | nil =>
    exact .inl ⟨rfl, _, by simpa using hvis, by simpa using hf', by simpa using hg'⟩
  | @snoc ws' b' _ m0 _ j op' rs' r' hl' hv' hc' =>
    refine .inr ⟨ws', b', j + 1, by simp, .inr ⟨by omega, op', rs', m0, r' ++ (r ++ [(b, n0 + 1, n + 1)]), hl', ?_, ?_, ?_, ?_⟩⟩
    · obtain ⟨hj, hje⟩ := List.getElem?_eq_some_iff.1 hc'
      rw [List.take_succ_eq_append_getElem hj, hje]
      exact .snoc hv' hvis
    · exact (List.getElem?_eq_some_iff.1 hc').1
    · rw [List.append_assoc] at hf'; exact hf'
    · rw [List.append_assoc] at hg'; exact hg'
theorem nodup_le {l : List Int} {N : Nat} (hn : l.Nodup) (hr : ∀ x, x ∈ l → 0 ≤ x ∧ x < (N : Int)) : l.length ≤ N := by
  have hp := (List.perm_ext_iff_of_nodup hn (l₂ := ((List.range N).filter (fun i : Nat => decide ((i : Int) ∈ l))).map (fun i : Nat => (i : Int))) (nodup_cast (List.nodup_range.sublist List.filter_sublist))).2 (fun x => by
    constructor
    · intro hx
      obtain ⟨h1, h2⟩ := hr x hx
      have e : ((x.toNat : Nat) : Int) = x := Int.toNat_of_nonneg h1
      exact List.mem_map.2 ⟨x.toNat, List.mem_filter.2 ⟨List.mem_range.2 (by omega), by rw [e]; simpa using hx⟩, e⟩
    · intro hx
      obtain ⟨i, hi, rfl⟩ := List.mem_map.1 hx
      simpa using (List.mem_filter.1 hi).2)
  rw [hp.length_eq, List.length_map]
  exact Nat.le_trans (List.length_filter_le _ _) (by simp)
theorem Low.bound (h : TreeP K pl up) (h0 : 0 ≤ pl 0) {N : Nat} (hN : ∀ x, 0 ≤ pl x → 0 ≤ x ∧ x < (N : Int)) {op : List (Int × Nat)} {rs : Recs} (hl : Low K ws b n op rs) : n + 2 ≤ 2 * N := by
  obtain ⟨f1, f2, f3, f4, f5⟩ := hl.facts h h0
  have hnd : (b :: (op.map (·.1) ++ rs.map (·.1))).Nodup := by
    rw [List.nodup_cons]
    refine ⟨fun hm => ?_, f4⟩
    rcases List.mem_append.1 hm with hm | hm
    · obtain ⟨⟨x, i⟩, mx, rfl⟩ := List.mem_map.1 hm
      have := (f2 x i mx).2.1
      simp only at this
      omega
    · obtain ⟨⟨x, i, o⟩, mx, rfl⟩ := List.mem_map.1 hm
      exact (f3 x i o mx).1 (.refl _)
  have := nodup_le (N := N) hnd (fun x hx => by
    rcases List.mem_cons.1 hx with rfl | hx
    · exact hN _ f1
    · rcases List.mem_append.1 hx with hm | hm
      · obtain ⟨⟨x, i⟩, mx, rfl⟩ := List.mem_map.1 hm
        exact hN _ (f2 x i mx).2.2.1
      · obtain ⟨⟨x, i, o⟩, mx, rfl⟩ := List.mem_map.1 hm
        exact hN _ (f3 x i o mx).2)
  simp only [List.length_cons, List.length_append, List.length_map] at this
  omega
theorem UNS.bound (h : TreeP K pl up) (h0 : 0 ≤ pl 0) {N : Nat} (hN : ∀ x, 0 ≤ pl x → 0 ≤ x ∧ x < (N : Int)) (hu : UNS K ws b n f g) : n + 2 ≤ 2 * N := by
  obtain ⟨op, rs, hl, _⟩ := hu
  exact hl.bound h h0 hN
theorem STA.bound (h : TreeP K pl up) (h0 : 0 ≤ pl 0) {N : Nat} (hN : ∀ x, 0 ≤ pl x → 0 ≤ x ∧ x < (N : Int)) (hs : STA K ws b k n f g) : n + 1 ≤ 2 * N := by
  obtain ⟨op, rs, n0, r, hl, hv, hk, _, _⟩ := hs
  obtain ⟨f1, f2, f3, f4, f5⟩ := hl.facts h h0
  have fr := VisL.facts h.toTreeU hv
  have hsub : ∀ x, x ∈ (K b).take k → x ∈ K b := fun x hx => List.mem_of_mem_take hx
  have hrb : ∀ x i o, (x, i, o) ∈ r → Anc up x b ∧ 0 ≤ pl x ∧ x ≠ b := by
    intro x i o hx
    obtain ⟨⟨c', hc', ha⟩, _⟩ := fr.1 x i o hx
    have hk' := h.kid b c' (hsub c' hc')
    refine ⟨ha.trans (h.anc (hsub c' hc')), ?_, ?_⟩
    · rcases Int.lt_or_le (pl x) 0 with h7 | h7
      · exact absurd ha (h.neg x c' h7 (h.pos b f1 c' (hsub c' hc')))
      · exact h7
    · rintro rfl
      have := h.le _ _ ha f1
      omega
  have hnd : (b :: ((op.map (·.1) ++ rs.map (·.1)) ++ r.map (·.1))).Nodup := by
    rw [List.nodup_cons, List.nodup_append]
    refine ⟨fun hm => ?_, f4, VisL.nod h f1 hsub ((h.nod b).sublist (List.take_sublist _ _)) hv, fun x hx y hy e => ?_⟩
    · rcases List.mem_append.1 hm with hm | hm
      · rcases List.mem_append.1 hm with hm | hm
        · obtain ⟨⟨x, i⟩, mx, rfl⟩ := List.mem_map.1 hm
          have := (f2 x i mx).2.1
          simp only at this
          omega
        · obtain ⟨⟨x, i, o⟩, mx, rfl⟩ := List.mem_map.1 hm
          exact (f3 x i o mx).1 (.refl _)
      · obtain ⟨⟨x, i, o⟩, mx, rfl⟩ := List.mem_map.1 hm
        exact (hrb x i o mx).2.2 rfl
    · obtain ⟨⟨y, i', o'⟩, my, rfl⟩ := List.mem_map.1 hy
      rcases List.mem_append.1 hx with hx | hx
      · obtain ⟨⟨x, i⟩, mx, rfl⟩ := List.mem_map.1 hx
        simp only at e
        subst e
        have := (f2 x i mx).2.1
        have := h.le _ _ (hrb x i' o' my).1 (hrb x i' o' my).2.1
        omega
      · obtain ⟨⟨x, i, o⟩, mx, rfl⟩ := List.mem_map.1 hx
        simp only at e
        subst e
        exact (f3 x i o mx).1 (hrb x i' o' my).1
  have := nodup_le (N := N) hnd (fun x hx => by
    rcases List.mem_cons.1 hx with rfl | hx
    · exact hN _ f1
    · rcases List.mem_append.1 hx with hx | hx
      · rcases List.mem_append.1 hx with hm | hm
        · obtain ⟨⟨x, i⟩, mx, rfl⟩ := List.mem_map.1 hm
          exact hN _ (f2 x i mx).2.2.1
        · obtain ⟨⟨x, i, o⟩, mx, rfl⟩ := List.mem_map.1 hm
          exact hN _ (f3 x i o mx).2
      · obtain ⟨⟨x, i, o⟩, mx, rfl⟩ := List.mem_map.1 hx
        exact hN _ (hrb x i o mx).2.1)
  have hlen := VisL.len hv
  simp only [List.length_cons, List.length_append, List.length_map] at this
  omega
end
section
variable {K : Int → List Int} {pl up : Int → Int}
mutual
theorem Vis.kids {b : Int} {n m : Nat} {r : Recs} : Vis K b n m r → (∃ i o, (b, i, o) ∈ r) ∧ ∀ x i o, (x, i, o) ∈ r → ∀ c, c ∈ K x → ∃ i' o', (c, i', o') ∈ r
  | .mk (m := m) (r := r) hl => by
    have ih := VisL.kids hl
    refine ⟨⟨n + 1, m + 1, by simp⟩, fun x i o hx c hc => ?_⟩
    rcases List.mem_append.1 hx with hx | hx
    · obtain ⟨i', o', h'⟩ := ih.2 x i o hx c hc
      exact ⟨i', o', List.mem_append_left _ h'⟩
    · simp only [List.mem_singleton, Prod.mk.injEq] at hx
      obtain ⟨rfl, _, _⟩ := hx
      obtain ⟨i', o', h'⟩ := ih.1 c hc
      exact ⟨i', o', List.mem_append_left _ h'⟩
theorem VisL.kids {l : List Int} {n m : Nat} {r : Recs} : VisL K l n m r → (∀ c, c ∈ l → ∃ i o, (c, i, o) ∈ r) ∧ ∀ x i o, (x, i, o) ∈ r → ∀ c, c ∈ K x → ∃ i' o', (c, i', o') ∈ r
  | .nil => ⟨fun c hc => by simp at hc, fun x i o hx => by simp at hx⟩
  | .snoc (l := l) (c := c0) hl hv => by
    have i1 := VisL.kids hl
    have i2 := Vis.kids hv
    refine ⟨fun c hc => ?_, fun x i o hx c hc => ?_⟩
    · rcases List.mem_append.1 hc with hc | hc
      · obtain ⟨i', o', h'⟩ := i1.1 c hc
        exact ⟨i', o', List.mem_append_left _ h'⟩
      · simp only [List.mem_singleton] at hc
        subst hc
        obtain ⟨i', o', h'⟩ := i2.1
        exact ⟨i', o', List.mem_append_right _ h'⟩
    · rcases List.mem_append.1 hx with hx | hx
      · obtain ⟨i', o', h'⟩ := i1.2 x i o hx c hc
        exact ⟨i', o', List.mem_append_left _ h'⟩
      · obtain ⟨i', o', h'⟩ := i2.2 x i o hx c hc
        exact ⟨i', o', List.mem_append_right _ h'⟩
end
theorem FIN.stands {n : Nat} {f g : Int → Int} (h : TreeP K pl up) (h0 : 0 ≤ pl 0) (hall : ∀ x, 0 ≤ pl x → x ≠ 0 → x ∈ K (up x) ∧ 0 ≤ pl (up x) ∧ pl (up x) < pl x) (hf : FIN K n f g) {x y : Int} (hx : 0 ≤ pl x) (hy : 0 ≤ pl y) :
    (0 < f x ∧ 0 < f y ∧ f x ≤ f y ∧ g y ≤ g x) ↔ Anc up y x := by
  obtain ⟨rs, hv, hin, hout⟩ := hf
  have hk := Vis.kids hv
  have key : ∀ (m : Nat) (x : Int), 0 ≤ pl x → (pl x).toNat ≤ m → ∃ i o, (x, i, o) ∈ rs := by
    intro m
    induction m with
    | zero =>
      intro x hx hm
      by_cases e : x = 0
      · subst e; exact hk.1
      · have := hall x hx e; omega
    | succ m ih =>
      intro x hx hm
      by_cases e : x = 0
      · subst e; exact hk.1
      · obtain ⟨h1, h2, h3⟩ := hall x hx e
        obtain ⟨i, o, hm'⟩ := ih (up x) h2 (by omega)
        exact hk.2 _ i o hm' x h1
  obtain ⟨i, o, mx⟩ := key _ x hx (Nat.le_refl _)
  obtain ⟨i', o', my⟩ := key _ y hy (Nat.le_refl _)
  have fr := Vis.facts h.toTreeU hv
  obtain ⟨_, p1, p2, _⟩ := fr.1 x i o mx
  obtain ⟨_, p3, p4, _⟩ := fr.1 y i' o' my
  rw [(hin x).2.1 i o mx, (hin y).2.1 i' o' my, (hout x).1 i o mx, (hout y).1 i' o' my, ← Vis.hold h h0 hv x i o y i' o' mx my]
  omega
end
end Go.Mor
namespace Go.Mor
open Go.RowKit
def kidAt (bs : List SB) (up : Int → Int) (k : Nat) (d : Int) : List Int := ((orderL bs).take k).filter (fun x => up x == d)
def kidsTo (bs : List SB) (up : Int → Int) (k : Nat) : List (List Int) := (List.range bs.length).map (fun d : Nat => kidAt bs up k (d : Int))
def kidsU (bs : List SB) (up : Int → Int) (b : Int) : List Int := if 0 ≤ b then (orderL bs).filter (fun x => up x == b) else []
section
variable {bs : List SB} {up : Int → Int}
theorem kidAt_len (k : Nat) (d : Int) : (kidAt bs up k d).length ≤ bs.length := by
  have := orderL_len bs
  have h2 := List.length_filter_le (fun x => up x == d) ((orderL bs).take k)
  have : ((orderL bs).take k).length ≤ (orderL bs).length := by simp; omega
  unfold kidAt
  omega
theorem kidsTo_zero : kidsTo bs up 0 = List.replicate bs.length [] := by
  unfold kidsTo kidAt
  apply List.ext_getElem?
  intro t
  by_cases h : t < bs.length
  · simp [h]
  · rw [List.getElem?_eq_none (by simpa using h), List.getElem?_eq_none (by simpa using h)]
theorem kidsTo_len (k : Nat) : (kidsTo bs up k).length = bs.length := by simp [kidsTo]
theorem kidsTo_get {k d : Nat} (hd : d < bs.length) : (kidsTo bs up k)[d]? = some (kidAt bs up k (d : Int)) := by simp [kidsTo, hd]
theorem kidsTo_next {k d : Nat} {b : Int} (hk : (orderL bs)[k]? = some b) (hu : up b = (d : Int)) (hd : d < bs.length) : (kidsTo bs up k).set d (kidAt bs up k (d : Int) ++ [b]) = kidsTo bs up (k + 1) := by
  apply List.ext_getElem?
  intro t
  by_cases e : d = t
  · subst e
    rw [List.getElem?_set_self (by rw [kidsTo_len]; exact hd), kidsTo_get hd]
    congr 1
    unfold kidAt
    rw [take_snoc hk, List.filter_append]
    simp [hu]
  · rw [List.getElem?_set_ne e]
    by_cases h : t < bs.length
    · rw [kidsTo_get h, kidsTo_get h]
      congr 1
      unfold kidAt
      rw [take_snoc hk, List.filter_append]
      have : ¬ up b = (t : Int) := by rw [hu]; omega
      simp [this]
    · rw [List.getElem?_eq_none (by rw [kidsTo_len]; omega), List.getElem?_eq_none (by rw [kidsTo_len]; omega)]
theorem kidsTo_skip {k : Nat} {b : Int} (hk : (orderL bs)[k]? = some b) (hu : up b < 0) : kidsTo bs up k = kidsTo bs up (k + 1) := by
  unfold kidsTo
  apply List.map_congr_left
  intro t _
  unfold kidAt
  rw [take_snoc hk, List.filter_append]
  have : ¬ up b = (t : Int) := by omega
  simp [this]
theorem kidsTo_at {k b : Nat} (hk : (orderL bs).length ≤ k) (hb : b < bs.length) : (kidsTo bs up k)[b]? = some (kidsU bs up (b : Int)) := by
  rw [kidsTo_get hb]
  unfold kidAt kidsU
  rw [List.take_of_length_le hk, if_pos (by omega)]
theorem kids_mem {b c : Int} : c ∈ kidsU bs up b ↔ 0 ≤ b ∧ c ∈ orderL bs ∧ up c = b := by
  unfold kidsU
  split
  · rename_i h; simp [h]
  · rename_i h; simp [h]
theorem kidsU_len (b : Int) : (kidsU bs up b).length ≤ bs.length := by
  unfold kidsU
  have := orderL_len bs
  split
  · have h2 := List.length_filter_le (fun x => up x == b) (orderL bs); omega
  · simp
theorem ord_pl (h0 : 0 < bs.length) {c : Int} : c ∈ orderL bs ↔ 0 ≤ plB bs c := by
  rw [(plB_plc h0).reach, (order_ok h0).mem]
theorem FinU.tree (h0 : 0 < bs.length) (hf : FinU bs up) : TreeP (kidsU bs up) (plB bs) up where
  kid b c hc := by
    obtain ⟨h1, h2, h3⟩ := kids_mem.1 hc
    have hp := (ord_pl h0).1 h2
    have hne : c ≠ 0 := by
      rintro rfl
      have := hf.off 0 (.inr rfl)
      omega
    have := (hf.ok.low c (hf.prc c hp) hne).2
    rw [h3] at this
    exact ⟨h3, hne, this⟩
  nod b := by
    unfold kidsU
    split
    · exact (order_ok h0).nodup.sublist List.filter_sublist
    · exact List.nodup_nil
  le x d h hx := (Anc.prc hf.ok h (hf.prc x hx)).2.1
  pos b hb c hc := (ord_pl h0).1 (kids_mem.1 hc).2.1
  neg x d hx hd h := by
    induction h with
    | refl => omega
    | @step x d hne h ih =>
      refine ih ?_ hd
      rw [hf.off x (.inl hx)]
      rcases Int.lt_or_le (plB bs (-1)) 0 with h1 | h1
      · exact h1
      · have := plB_rng h0 h1; omega
theorem FinU.hall (h0 : 0 < bs.length) (hf : FinU bs up) : ∀ x, 0 ≤ plB bs x → x ≠ 0 → x ∈ kidsU bs up (up x) ∧ 0 ≤ plB bs (up x) ∧ plB bs (up x) < plB bs x := by
  intro x hx hne
  obtain ⟨h1, h2⟩ := hf.ok.low x (hf.prc x hx) hne
  have := plB_rng h0 h1.1
  exact ⟨kids_mem.2 ⟨this.1, (ord_pl h0).2 hx, rfl⟩, h1.1, h2⟩
theorem up_nat (h0 : 0 < bs.length) (hf : FinU bs up) {b : Int} (hb : 0 ≤ plB bs b) (hu : 0 ≤ up b) : ∃ d : Nat, up b = (d : Int) ∧ d < bs.length := by
  have hne : b ≠ 0 := by
    rintro rfl
    have := hf.off 0 (.inr rfl)
    omega
  have h := plB_rng h0 (hf.hall h0 b hb hne).2.1
  exact ⟨(up b).toNat, (Int.toNat_of_nonneg h.1).symm, by omega⟩
theorem kid_nat (h0 : 0 < bs.length) {b : Int} {k : Nat} (hk : k < (kidsU bs up b).length) : ∃ ci : Nat, (kidsU bs up b)[k]? = some (ci : Int) ∧ ci < bs.length := by
  have hm : (kidsU bs up b)[k] ∈ kidsU bs up b := List.getElem_mem hk
  have hp := (ord_pl h0).1 (kids_mem.1 hm).2.1
  have := plB_rng h0 hp
  exact ⟨((kidsU bs up b)[k]).toNat, by rw [List.getElem?_eq_getElem hk, Int.toNat_of_nonneg this.1], by omega⟩
end
theorem mdc_push (ws : List (Int × Int)) (b k : Int) : mdc ws ++ [.int .i64 b, .int .i64 k] = mdc (ws ++ [(b, k)]) := by simp [mdc]
theorem mdc_top (ws : List (Int × Int)) (b k : Int) : (mdc (ws ++ [(b, k)]))[ws.length * 2]? = some (.int .i64 b) ∧ (mdc (ws ++ [(b, k)]))[ws.length * 2 + 1]? = some (.int .i64 k) := mdc_at (p := (b, k)) (by simp)
theorem mdc_pop (ws : List (Int × Int)) (b k : Int) : (mdc (ws ++ [(b, k)])).take (ws.length * 2) = mdc ws := by
  rw [← mdc_push, List.take_left' (by rw [mdc_len])]
theorem mdc_inc (ws : List (Int × Int)) (b k v : Int) : (mdc (ws ++ [(b, k)])).set (ws.length * 2 + 1) (.int .i64 v) = mdc (ws ++ [(b, v)]) := by
  rw [← mdc_push, ← mdc_push, List.set_append_right _ _ (by rw [mdc_len]; omega), mdc_len, show ws.length * 2 + 1 - ws.length * 2 = 1 by omega]
  rfl
theorem IntsOf.upd {n : Nat} {l : List Int} {f : Int → Int} (h : IntsOf n l f) {b v : Int} (h0 : 0 ≤ b) (h1 : b < (n : Int)) : IntsOf n (l.set b.toNat v) (updF f b v) := by
  refine h.set (by omega) (by simp [updF, Int.toNat_of_nonneg h0]) (fun j _ hne => ?_)
  unfold updF
  rw [if_neg (by omega)]
theorem ints_zero (n : Nat) : IntsOf n (List.replicate n 0) (fun _ => 0) := ⟨by simp, fun i hi => by simp [List.getD, hi]⟩
section
variable {K : Int → List Int} {ws : List (Int × Int)} {b : Int} {n k : Nat} {f g : Int → Int}
theorem VisL.le {l : List Int} {n m : Nat} {r : Recs} (h : VisL K l n m r) : n ≤ m := by have := VisL.len h; omega
theorem Low.wlen {op : List (Int × Nat)} {rs : Recs} (h : Low K ws b n op rs) : ws.length ≤ n := by
  induction h with
  | nil => simp
  | snoc _ hv _ ih => have := hv.le; simp only [List.length_append, List.length_cons, List.length_nil]; omega
theorem UNS.wlen (h : UNS K ws b n f g) : ws.length ≤ n := by
  obtain ⟨op, rs, hl, _⟩ := h
  exact hl.wlen
theorem STA.wlen (h : STA K ws b k n f g) : ws.length + 1 ≤ n := by
  obtain ⟨op, rs, n0, r, hl, hv, _⟩ := h
  have := hl.wlen
  have := hv.le
  omega
theorem HEAD.start : HEAD K [(0, 0)] 0 (fun _ => 0) (fun _ => 0) := .inr ⟨[], 0, 0, by simp, .inl ⟨rfl, [], [], .nil, fun x => ⟨by simp, by simp, fun _ _ => rfl⟩, fun x => ⟨by simp, fun _ => rfl⟩⟩⟩
theorem HEAD.none (h : HEAD K [] n f g) : FIN K n f g := by
  rcases h with ⟨_, h⟩ | ⟨ws, b, k, e, _⟩
  · exact h
  · simp at e
theorem HEAD.some {way : List (Int × Int)} (h : HEAD K way n f g) (hw : 0 < way.length) : ∃ (ws : List (Int × Int)) (b : Int) (k : Nat), way = ws ++ [(b, (k : Int))] ∧ ((k = 0 ∧ UNS K ws b n f g) ∨ (1 ≤ k ∧ STA K ws b k n f g)) := by
  rcases h with ⟨rfl, _⟩ | h
  · simp at hw
  · exact h
def wflag (way : List (Int × Int)) : Nat := match way.getLast? with
  | some (_, k) => if k = 0 then 0 else 1
  | none => 0
theorem wflag_le (way : List (Int × Int)) : wflag way ≤ 1 := by
  unfold wflag
  split
  · split <;> omega
  · omega
theorem wflag_snoc (ws : List (Int × Int)) (b k : Int) : wflag (ws ++ [(b, k)]) = if k = 0 then 0 else 1 := by simp [wflag]
end
end Go.Mor
namespace Go.Mor
open Go.RowKit
def standQ (f g : Int → Int) (a b : Int) : Prop := 0 < f a ∧ 0 < f b ∧ f a ≤ f b ∧ g b ≤ g a
instance (f g : Int → Int) (a b : Int) : Decidable (standQ f g a b) := by unfold standQ; infer_instance
def thereQ (D : Int → Int → Prop) (pa va : Int) (ds : Dfs) (v b q : Int) : Prop :=
  0 ≤ v ∧ v < va ∧ (v < pa ∨ ∃ p, findD ds v = some p ∧ ((p.1 = b ∧ p.2 < q) ∨ (p.1 ≠ b ∧ D p.1 b)))
noncomputable instance (D : Int → Int → Prop) (pa va : Int) (ds : Dfs) (v b q : Int) : Decidable (thereQ D pa va ds v b q) := Classical.propDecidable _
section
variable {D : Int → Int → Prop} {pa va : Int} {n : Nat} {ds : Dfs} {l : List (Int × Int)} {v b q : Int} {pm : Int × Int}
theorem there_out (h : v < 0 ∨ va ≤ v) : ¬ thereQ D pa va ds v b q := fun ⟨h1, h2, _⟩ => by omega
theorem there_par (h0 : 0 ≤ v) (h1 : v < va) (h2 : v < pa) : thereQ D pa va ds v b q := ⟨h0, h1, .inl h2⟩
theorem tab_at {base : Nat → Int × Int} {enc : Int × Int → Int × Int} (ht : Tab n base enc ds l) (hpm : l[v.toNat]? = some pm) (h0 : 0 ≤ v) (h1 : v < (n : Int)) : pm = (match findD ds v with | some p => enc p | none => base v.toNat) := by
  have := ht.at_ v.toNat (by omega)
  rw [hpm, Int.toNat_of_nonneg h0] at this
  exact Option.some.inj this
theorem find_nonneg (hn : NonNeg ds) {p : Int × Int} (h : findD ds v = some p) : 0 ≤ p.1 := by
  by_cases hm : v ∈ ds.map (·.1)
  · obtain ⟨p', h1, h2⟩ := findD_some hm
    rw [h] at h1
    injection h1 with h1
    subst h1
    exact hn _ h2
  · rw [findD_none hm] at h; cases h
abbrev TabS (n : Nat) (ds : Dfs) (l : List (Int × Int)) : Prop := Tab n (fun _ => (-1, 0)) (fun p => (p.1, p.2 + 1)) ds l
theorem there_no (ht : TabS n ds l) (hn : NonNeg ds) (hpm : l[v.toNat]? = some pm) (h0 : 0 ≤ v) (h1 : v < (n : Int)) (hv : ¬ v < pa) (h2 : pm.1 < 0) : ¬ thereQ D pa va ds v b q := by
  rintro ⟨_, _, h | ⟨p, hp, _⟩⟩
  · exact hv h
  · have := tab_at ht hpm h0 h1
    rw [hp] at this
    have h3 := find_nonneg hn hp
    rw [this] at h2
    simp only at h2
    omega
theorem there_find (ht : TabS n ds l) (hpm : l[v.toNat]? = some pm) (h0 : 0 ≤ v) (h1 : v < (n : Int)) (h2 : 0 ≤ pm.1) : findD ds v = some (pm.1, pm.2 - 1) := by
  have := tab_at ht hpm h0 h1
  cases hf : findD ds v with
  | none =>
    rw [hf] at this
    rw [this] at h2
    simp only at h2
    omega
  | some p =>
    rw [hf] at this
    rw [this]
    simp only [Int.add_sub_cancel]
theorem there_here (ht : TabS n ds l) (hpm : l[v.toNat]? = some pm) (h0 : 0 ≤ v) (h1 : v < (n : Int)) (hva : va = (n : Int)) (hv : ¬ v < pa) (h2 : 0 ≤ pm.1) (h3 : pm.1 = b) : pm.2 ≤ q ↔ thereQ D pa va ds v b q := by
  have hf := there_find ht hpm h0 h1 h2
  constructor
  · intro h
    exact ⟨h0, by omega, .inr ⟨_, hf, .inl ⟨h3, by show pm.2 - 1 < q; omega⟩⟩⟩
  · rintro ⟨_, _, h | ⟨p, hp, h⟩⟩
    · exact absurd h hv
    · rw [hf] at hp
      injection hp with hp
      subst hp
      rcases h with ⟨_, h⟩ | ⟨h, _⟩
      · simp only at h; omega
      · exact absurd h3 h
theorem there_up (ht : TabS n ds l) (hpm : l[v.toNat]? = some pm) (h0 : 0 ≤ v) (h1 : v < (n : Int)) (hva : va = (n : Int)) (hv : ¬ v < pa) (h2 : 0 ≤ pm.1) (h3 : ¬ pm.1 = b) : D pm.1 b ↔ thereQ D pa va ds v b q := by
  have hf := there_find ht hpm h0 h1 h2
  constructor
  · intro h
    exact ⟨h0, by omega, .inr ⟨_, hf, .inr ⟨h3, h⟩⟩⟩
  · rintro ⟨_, _, h | ⟨p, hp, h⟩⟩
    · exact absurd h hv
    · rw [hf] at hp
      injection hp with hp
      subst hp
      rcases h with ⟨h, _⟩ | ⟨_, h⟩
      · exact absurd h h3
      · exact h
theorem there_rng {N : Nat} (ht : TabS n ds l) (hd : ∀ d, d ∈ ds → 0 ≤ d.2.1 ∧ d.2.1 < (N : Int) ∧ -1 ≤ d.2.2) (hpm : l[v.toNat]? = some pm) (h0 : 0 ≤ v) (h1 : v < (n : Int)) (h2 : 0 ≤ pm.1) : pm.1 < (N : Int) := by
  have hf := there_find ht hpm h0 h1 h2
  by_cases hm : v ∈ ds.map (·.1)
  · obtain ⟨p, h3, h4⟩ := findD_some hm
    rw [hf] at h3
    injection h3 with h3
    subst h3
    exact (hd _ h4).2.1
  · rw [findD_none hm] at hf; cases hf
def overD (bs : List SB) (a b : Int) : Prop := at2 (overL bs) a.toNat b.toNat = true
end
structure ReadsQ (D : Int → Int → Prop) (E : Int → Int) (R : FBlk → Prop) (pa va : Int) (fs : List FBlk) (k : Nat) (x : FBlk) : Prop where
  phis : ∀ (j : Nat) (p : FPhi), x.phis[j]? = some p → p.args.length = (srcs (bsOf fs) (k : Int)).length ∧
    ∀ (i : Nat) (a s : Int), p.args[i]? = some a → (srcs (bsOf fs) (k : Int))[i]? = some s → thereQ D pa va (defsF fs) a s (E s)
  insts : ∀ (j : Nat) (p : FIns), x.insts[j]? = some p → ∀ (i : Nat) (a : Int), p.args[i]? = some a → thereQ D pa va (defsF fs) a (k : Int) (j : Int)
  fin : R x → thereQ D pa va (defsF fs) x.v (k : Int) (E (k : Int))
def readsQ (D : Int → Int → Prop) (E : Int → Int) (R : FBlk → Prop) (pa va : Int) (fs : List FBlk) (k : Nat) : Prop := ∃ x, fs[k]? = some x ∧ ReadsQ D E R pa va fs k x
noncomputable instance (D : Int → Int → Prop) (E : Int → Int) (R : FBlk → Prop) (pa va : Int) (fs : List FBlk) (k : Nat) : Decidable (readsQ D E R pa va fs k) := Classical.propDecidable _
def endS (fs : List FBlk) (b : Int) : Int := match fs[b.toNat]? with
  | some x => (x.insts.length : Int)
  | none => 0
theorem endS_at {fs : List FBlk} {k : Nat} {x : FBlk} (h : fs[k]? = some x) : endS fs (k : Int) = (x.insts.length : Int) := by simp [endS, h]
def finS (x : FBlk) : Prop := x.e = 1 ∨ (x.e = 2 ∧ 0 ≤ x.v)
def finR (x : FBlk) : Prop := x.e = 1 ∨ (x.e = 2 ∧ x.v ≠ -1)
section
variable {D : Int → Int → Prop} {E : Int → Int} {R : FBlk → Prop} {pa va : Int} {fs : List FBlk} {k : Nat} {x : FBlk}
def PhiTo (D : Int → Int → Prop) (E : Int → Int) (pa va : Int) (fs : List FBlk) (k : Nat) (x : FBlk) (j : Nat) : Prop := ∀ (j' : Nat) (p : FPhi), j' < j → x.phis[j']? = some p → p.args.length = (srcs (bsOf fs) (k : Int)).length ∧
    ∀ (i : Nat) (a s : Int), p.args[i]? = some a → (srcs (bsOf fs) (k : Int))[i]? = some s → thereQ D pa va (defsF fs) a s (E s)
def ArgTo (D : Int → Int → Prop) (E : Int → Int) (pa va : Int) (fs : List FBlk) (k : Nat) (p : FPhi) (i : Nat) : Prop := ∀ (i' : Nat) (a s : Int), i' < i → p.args[i']? = some a → (srcs (bsOf fs) (k : Int))[i']? = some s → thereQ D pa va (defsF fs) a s (E s)
def InsTo (D : Int → Int → Prop) (pa va : Int) (fs : List FBlk) (k : Nat) (x : FBlk) (j : Nat) : Prop := ∀ (j' : Nat) (p : FIns), j' < j → x.insts[j']? = some p → ∀ (i : Nat) (a : Int), p.args[i]? = some a → thereQ D pa va (defsF fs) a (k : Int) (j' : Int)
def OpTo (D : Int → Int → Prop) (pa va : Int) (fs : List FBlk) (k j : Nat) (p : FIns) (i : Nat) : Prop := ∀ (i' : Nat) (a : Int), i' < i → p.args[i']? = some a → thereQ D pa va (defsF fs) a (k : Int) (j : Int)
theorem lt_succ_cases {P : Nat → Prop} {n : Nat} (h : ∀ i, i < n → P i) (hn : P n) : ∀ i, i < n + 1 → P i := fun i hi => by
  by_cases e : i = n
  · subst e; exact hn
  · exact h i (by omega)
theorem PhiTo.next {j : Nat} {p : FPhi} (h : PhiTo D E pa va fs k x j) (hp : x.phis[j]? = some p) (hl : p.args.length = (srcs (bsOf fs) (k : Int)).length) (ha : ArgTo D E pa va fs k p p.args.length) : PhiTo D E pa va fs k x (j + 1) := by
  intro j' p' hj hp'
  by_cases e : j' = j
  · subst e
    rw [hp] at hp'
    injection hp' with hp'
    subst hp'
    exact ⟨hl, fun i a s hi => ha i a s (List.getElem?_eq_some_iff.1 hi).1 hi⟩
  · exact h j' p' (by omega) hp'
theorem ArgTo.next {i : Nat} {p : FPhi} {a s : Int} (h : ArgTo D E pa va fs k p i) (hi : p.args[i]? = some a) (hs : (srcs (bsOf fs) (k : Int))[i]? = some s) (ht : thereQ D pa va (defsF fs) a s (E s)) : ArgTo D E pa va fs k p (i + 1) := by
  intro i' a' s' hlt h1 h2
  by_cases e : i' = i
  · subst e
    rw [hi] at h1; rw [hs] at h2
    injection h1 with h1; injection h2 with h2
    subst h1; subst h2
    exact ht
  · exact h i' a' s' (by omega) h1 h2
theorem InsTo.next {j : Nat} {p : FIns} (h : InsTo D pa va fs k x j) (hp : x.insts[j]? = some p) (ha : OpTo D pa va fs k j p p.args.length) : InsTo D pa va fs k x (j + 1) := by
  intro j' p' hj hp'
  by_cases e : j' = j
  · subst e
    rw [hp] at hp'
    injection hp' with hp'
    subst hp'
    exact fun i a hi => ha i a (List.getElem?_eq_some_iff.1 hi).1 hi
  · exact h j' p' (by omega) hp'
theorem OpTo.next {j i : Nat} {p : FIns} {a : Int} (h : OpTo D pa va fs k j p i) (hi : p.args[i]? = some a) (ht : thereQ D pa va (defsF fs) a (k : Int) (j : Int)) : OpTo D pa va fs k j p (i + 1) := by
  intro i' a' hlt h1
  by_cases e : i' = i
  · subst e
    rw [hi] at h1
    injection h1 with h1
    subst h1
    exact ht
  · exact h i' a' (by omega) h1
theorem reads_yes (hx : fs[k]? = some x) (h1 : PhiTo D E pa va fs k x x.phis.length) (h2 : InsTo D pa va fs k x x.insts.length) (h3 : R x → thereQ D pa va (defsF fs) x.v (k : Int) (E (k : Int))) : readsQ D E R pa va fs k :=
  ⟨x, hx, fun j p hp => h1 j p (List.getElem?_eq_some_iff.1 hp).1 hp, fun j p hp => h2 j p (List.getElem?_eq_some_iff.1 hp).1 hp, h3⟩
theorem reads_of (hx : fs[k]? = some x) (h : readsQ D E R pa va fs k) : ReadsQ D E R pa va fs k x := by
  obtain ⟨y, hy, h⟩ := h
  rw [hx] at hy
  injection hy with hy
  subst hy
  exact h
theorem reads_len (hx : fs[k]? = some x) {j : Nat} {p : FPhi} (hp : x.phis[j]? = some p) (hl : ¬ p.args.length = (srcs (bsOf fs) (k : Int)).length) : ¬ readsQ D E R pa va fs k := fun h => hl ((reads_of hx h).phis j p hp).1
theorem reads_arg (hx : fs[k]? = some x) {j i : Nat} {p : FPhi} {a s : Int} (hp : x.phis[j]? = some p) (hi : p.args[i]? = some a) (hs : (srcs (bsOf fs) (k : Int))[i]? = some s) (ht : ¬ thereQ D pa va (defsF fs) a s (E s)) : ¬ readsQ D E R pa va fs k := fun h => ht (((reads_of hx h).phis j p hp).2 i a s hi hs)
theorem reads_op (hx : fs[k]? = some x) {j i : Nat} {p : FIns} {a : Int} (hp : x.insts[j]? = some p) (hi : p.args[i]? = some a) (ht : ¬ thereQ D pa va (defsF fs) a (k : Int) (j : Int)) : ¬ readsQ D E R pa va fs k := fun h => ht ((reads_of hx h).insts j p hp i a hi)
end
end Go.Mor
namespace Go.Mor
open Go.RowKit
structure GoodQ (nm : ByteArray) (pa va : Int) (fs : List FBlk) : Prop where
  name : nameQ nm
  par : 0 ≤ pa ∧ pa ≤ 16 ∧ pa ≤ va
  pos : 0 < fs.length
  phis : ∀ x, fs[0]? = some x → x.phis.length = 0
  src : (srcs (bsOf fs) 0).length = 0
  all : (orderL (bsOf fs)).length = fs.length
  ends : ∀ x, x ∈ fs → endsQ (fs.length : Int) x
  vals : VQ pa va fs
  reads : ∀ k, k < fs.length → readsQ (Dm (tg (bsOf fs))) (fun _ => 20000) finR pa va fs k
noncomputable instance (nm : ByteArray) (pa va : Int) (fs : List FBlk) : Decidable (GoodQ nm pa va fs) := Classical.propDecidable _
noncomputable def validN (nm : ByteArray) (pa va : Int) (fs : List FBlk) : Int := if (sizeF fs : Int) > 20000 ∨ va > 20000 then 12 else if GoodQ nm pa va fs then 0 else 4
section
variable {nm : ByteArray} {pa va : Int} {fs : List FBlk}
theorem valid_12 (h : (sizeF fs : Int) > 20000 ∨ va > 20000) : (12 : Int) = validN nm pa va fs := by rw [validN, if_pos h]
theorem valid_4 (h : ¬ ((sizeF fs : Int) > 20000 ∨ va > 20000)) (hg : ¬ GoodQ nm pa va fs) : (4 : Int) = validN nm pa va fs := by rw [validN, if_neg h, if_neg hg]
theorem valid_0 (h : ¬ ((sizeF fs : Int) > 20000 ∨ va > 20000)) (hg : GoodQ nm pa va fs) : (0 : Int) = validN nm pa va fs := by rw [validN, if_neg h, if_pos hg]
end
section
variable {bs : List SB}
theorem all_walk : (orderL bs).length = bs.length ↔ ∀ i : Nat, i < bs.length → walkB bs (-1) (i : Int) = true := by
  rw [← cnt_end]
  unfold cntT
  have h := List.length_filter_eq_length_iff (p := fun i : Nat => walkB bs (-1) (i : Int)) (l := List.range bs.length)
  rw [List.length_range] at h
  rw [h]
  simp only [List.mem_range]
theorem all_place (hl : (orderL bs).length = bs.length) {b : Int} (h0 : 0 ≤ b) (h1 : b < (bs.length : Int)) : 0 ≤ plB bs b := by
  have hp : 0 < bs.length := by omega
  have := all_walk.1 hl b.toNat (by omega)
  rw [Int.toNat_of_nonneg h0] at this
  exact ((plB_plc hp).reach _).2 (walk_reach.1 this)
theorem stand_dm {up : Int → Int} {n : Nat} {f g : Int → Int} (h0 : 0 < bs.length) (hl : (orderL bs).length = bs.length) (hf : FinU bs up) (hn : FIN (kidsU bs up) n f g) {a b : Int} (ha : 0 ≤ a ∧ a < (bs.length : Int)) (hb : 0 ≤ b ∧ b < (bs.length : Int)) :
    standQ f g a b ↔ Dm (tg bs) a b := by
  have pa := all_place hl ha.1 ha.2
  have pb := all_place hl hb.1 hb.2
  have h00 : 0 ≤ plB bs 0 := by rw [(plB_plc h0).zero]; omega
  rw [standQ, FIN.stands (hf.tree h0) h00 (hf.hall h0) hn pa pb]
  exact ⟨hf.dm b a, hf.ok.anc (hf.prc b pb)⟩
theorem over_dm (h0 : 0 < bs.length) (hl : (orderL bs).length = bs.length) {a b : Int} (ha : 0 ≤ a ∧ a < (bs.length : Int)) (hb : 0 ≤ b ∧ b < (bs.length : Int)) : overD bs a b ↔ Dm (tg bs) a b := by
  have pb := ((plB_plc h0).reach _).1 (all_place hl hb.1 hb.2)
  unfold overD
  rw [at2_over (by omega) (by omega), Int.toNat_of_nonneg ha.1, Int.toNat_of_nonneg hb.1]
  exact ⟨fun h => h.2, fun h => ⟨pb, h⟩⟩
end
theorem defs_place {fs : List FBlk} {d : Int × Int × Int} (h : d ∈ defsF fs) : ∃ x, fs[d.2.1.toNat]? = some x ∧ d.2.2 < (x.insts.length : Int) := by
  unfold defsF defsTo at h
  rw [List.mem_flatMap] at h
  obtain ⟨x, hx, hd⟩ := h
  rw [List.take_length] at hx
  have hx1 : fs[x.2]? = some x.1 := List.mem_zipIdx_iff_getElem?.1 hx
  unfold blkDefs at hd
  rcases List.mem_append.1 hd with hd | hd
  · unfold phiDefs at hd
    obtain ⟨p, _, rfl⟩ := List.mem_map.1 hd
    refine ⟨x.1, by simpa using hx1, ?_⟩
    show (-1 : Int) < _
    omega
  · unfold insDefs at hd
    obtain ⟨p, hp, rfl⟩ := List.mem_map.1 hd
    have hp1 : x.1.insts[p.2]? = some p.1 := List.mem_zipIdx_iff_getElem?.1 (List.mem_filter.1 hp).1
    have := (List.getElem?_eq_some_iff.1 hp1).1
    refine ⟨x.1, by simpa using hx1, ?_⟩
    show ((p.2 : Nat) : Int) < _
    omega
theorem size_ins {fs : List FBlk} {k : Nat} {x : FBlk} (h : fs[k]? = some x) : x.insts.length ≤ sizeF fs := by
  have hk := (List.getElem?_eq_some_iff.1 h).1
  have key : ∀ n, k < n → n ≤ fs.length → x.insts.length ≤ sizeTo fs n := by
    intro n
    induction n with
    | zero => intro h1; omega
    | succ n ih =>
      intro h1 h2
      obtain ⟨y, hy⟩ := get_of (l := fs) (i := n) (by omega)
      rw [sizeTo_succ hy]
      by_cases e : k = n
      · subst e
        rw [h] at hy
        injection hy with hy
        subst hy
        omega
      · have := ih (by omega) (by omega); omega
  have := key fs.length hk (Nat.le_refl _)
  unfold sizeF
  omega
section
variable {D D' : Int → Int → Prop} {E E' : Int → Int} {R R' : FBlk → Prop} {pa va : Int} {fs : List FBlk}
structure Agree (D D' : Int → Int → Prop) (E E' : Int → Int) (fs : List FBlk) : Prop where
  dom : ∀ a b : Int, 0 ≤ a ∧ a < (fs.length : Int) → 0 ≤ b ∧ b < (fs.length : Int) → (D a b ↔ D' a b)
  fin : ∀ d, d ∈ defsF fs → (d.2.2 < E d.2.1 ↔ d.2.2 < E' d.2.1)
theorem Agree.symm (h : Agree D D' E E' fs) : Agree D' D E' E fs := ⟨fun a b ha hb => (h.dom a b ha hb).symm, fun d hd => (h.fin d hd).symm⟩
theorem Agree.there (h : Agree D D' E E' fs) {v b q q' : Int} (hb : 0 ≤ b ∧ b < (fs.length : Int)) (hq : (q = E b ∧ q' = E' b) ∨ q = q') (ht : thereQ D pa va (defsF fs) v b q) : thereQ D' pa va (defsF fs) v b q' := by
  obtain ⟨h1, h2, h3 | ⟨p, hp, h3⟩⟩ := ht
  · exact ⟨h1, h2, .inl h3⟩
  · refine ⟨h1, h2, .inr ⟨p, hp, ?_⟩⟩
    have hm : (v, p) ∈ defsF fs := by
      by_cases hm : v ∈ (defsF fs).map (·.1)
      · obtain ⟨p', h4, h5⟩ := findD_some hm
        rw [hp] at h4
        injection h4 with h4
        subst h4
        exact h5
      · rw [findD_none hm] at hp; cases hp
    have hr := defs_mem hm
    rcases h3 with ⟨h3, h4⟩ | ⟨h3, h4⟩
    · refine .inl ⟨h3, ?_⟩
      rcases hq with ⟨rfl, rfl⟩ | rfl
      · have := h.fin _ hm
        simp only [h3] at this
        exact this.1 h4
      · exact h4
    · exact .inr ⟨h3, (h.dom _ _ ⟨hr.1, hr.2.1⟩ hb).1 h4⟩
theorem Agree.reads (h : Agree D D' E E' fs) {k : Nat} {x : FBlk} (hk : k < fs.length) (hR : R' x → R x) (hr : ReadsQ D E R pa va fs k x) : ReadsQ D' E' R' pa va fs k x where
  phis j p hp := by
    obtain ⟨h1, h2⟩ := hr.phis j p hp
    refine ⟨h1, fun i a s ha hs => h.there ?_ (.inl ⟨rfl, rfl⟩) (h2 i a s ha hs)⟩
    have hi := (List.getElem?_eq_some_iff.1 hs).1
    obtain ⟨si, h3, h4⟩ := srcs_at hi
    rw [hs] at h3
    injection h3 with h3
    subst h3
    rw [bsOf_len] at h4
    omega
  insts j p hp i a ha := h.there (by omega) (.inr rfl) (hr.insts j p hp i a ha)
  fin hx := h.there (by omega) (.inl ⟨rfl, rfl⟩) (hr.fin (hR hx))
theorem Agree.readsQ (h : Agree D D' E E' fs) {k : Nat} (hR : ∀ x, fs[k]? = some x → R' x → R x) (hr : readsQ D E R pa va fs k) : readsQ D' E' R' pa va fs k := by
  obtain ⟨x, hx, hr⟩ := hr
  exact ⟨x, hx, h.reads (List.getElem?_eq_some_iff.1 hx).1 (hR x hx) hr⟩
end
section
variable {pa va : Int} {fs : List FBlk}
theorem agree_ssa {up : Int → Int} {n : Nat} {f g : Int → Int} (h0 : 0 < fs.length) (hl : (orderL (bsOf fs)).length = fs.length) (hf : FinU (bsOf fs) up) (hn : FIN (kidsU (bsOf fs) up) n f g) (hs : (sizeF fs : Int) ≤ 20000) :
    Agree (standQ f g) (Dm (tg (bsOf fs))) (endS fs) (fun _ => 20000) fs where
  dom a b ha hb := stand_dm (by rw [bsOf_len]; exact h0) (by rw [bsOf_len]; exact hl) hf hn (by rw [bsOf_len]; exact ha) (by rw [bsOf_len]; exact hb)
  fin d hd := by
    obtain ⟨x, hx, h1⟩ := defs_place hd
    have := size_ins hx
    have h2 : endS fs d.2.1 = (x.insts.length : Int) := by simp [endS, hx]
    rw [h2]
    constructor <;> intro <;> omega
theorem agree_ref (h0 : 0 < fs.length) (hl : (orderL (bsOf fs)).length = fs.length) : Agree (overD (bsOf fs)) (Dm (tg (bsOf fs))) (fun _ => 20000) (fun _ => 20000) fs where
  dom a b ha hb := over_dm (by rw [bsOf_len]; exact h0) (by rw [bsOf_len]; exact hl) (by rw [bsOf_len]; exact ha) (by rw [bsOf_len]; exact hb)
  fin d hd := Iff.rfl
theorem fin_sr {N : Int} {x : FBlk} (h : endsS N x) : finR x ↔ finS x := by
  unfold finR finS
  have := h.2
  omega
theorem ends_sr {nm : ByteArray} (h : GoodQ nm pa va fs) : ∀ x, x ∈ fs → endsS (fs.length : Int) x := by
  intro x hx
  refine ⟨h.ends x hx, fun he => ?_⟩
  obtain ⟨k, hk⟩ := List.mem_iff_getElem?.1 hx
  obtain ⟨y, hy, hr⟩ := h.reads k (List.getElem?_eq_some_iff.1 hk).1
  rw [hk] at hy
  injection hy with hy
  subst hy
  by_cases hv : x.v = -1
  · omega
  · have := (hr.fin (.inr ⟨he, hv⟩)).1
    omega
end
end Go.Mor
namespace Go.Mor
theorem ends_next {fs : List FBlk} {Q : FBlk → Prop} {m : Nat} {x : FBlk} (h : ∀ (i : Nat) (x : FBlk), i < m → fs[i]? = some x → Q x) (hx : fs[m]? = some x) (hq : Q x) : ∀ (i : Nat) (x : FBlk), i < m + 1 → fs[i]? = some x → Q x := by
  intro i y hi hy
  by_cases e : i = m
  · subst e
    rw [hx] at hy
    injection hy with hy
    exact hy ▸ hq
  · exact h i y (by omega) hy
end Go.Mor
namespace Go.Mor
end Go.Mor
namespace Go.Mor
open Go.RowKit
theorem size_phisR {fs : List FBlk} {k : Nat} {x : FBlk} (h : fs[k]? = some x) : x.phis.length ≤ sizeF fs := by
  have hk := (List.getElem?_eq_some_iff.1 h).1
  have key : ∀ n, k < n → n ≤ fs.length → x.phis.length ≤ sizeTo fs n := by
    intro n
    induction n with
    | zero => intro h1; omega
    | succ n ih =>
      intro h1 h2
      obtain ⟨y, hy⟩ := get_of (l := fs) (i := n) (by omega)
      rw [sizeTo_succ hy]
      by_cases e : k = n
      · subst e
        rw [h] at hy
        injection hy with hy
        subst hy
        omega
      · have := ih (by omega) (by omega); omega
  have := key fs.length hk (Nat.le_refl _)
  unfold sizeF
  omega
theorem defs_ofR {fs : List FBlk} {k : Nat} {x : FBlk} (h : fs[k]? = some x) {d : Int × Int × Int} (hd : d ∈ blkDefs (k : Int) x) : d ∈ defsF fs := by
  unfold defsF defsTo
  rw [List.mem_flatMap]
  refine ⟨(x, k), ?_, hd⟩
  rw [List.take_length]
  exact List.mem_zipIdx_iff_getElem?.2 h
theorem defs_phiR {fs : List FBlk} {k : Nat} {x : FBlk} (h : fs[k]? = some x) {p : FPhi} (hp : p ∈ x.phis) : (p.dst, (k : Int), -1) ∈ defsF fs :=
  defs_ofR h (List.mem_append_left _ (List.mem_map.2 ⟨p, hp, rfl⟩))
theorem defs_insR {fs : List FBlk} {k : Nat} {x : FBlk} (h : fs[k]? = some x) {i : Nat} {p : FIns} (hp : x.insts[i]? = some p) (hm : makesQ p.op) : (p.dst, (k : Int), (i : Int)) ∈ defsF fs := by
  refine defs_ofR h (List.mem_append_right _ ?_)
  unfold insDefs
  rw [List.mem_map]
  exact ⟨(p, i), List.mem_filter.2 ⟨List.mem_zipIdx_iff_getElem?.2 hp, by simpa using hm⟩, rfl⟩
structure SrcOk (f : RFn) : Prop where
  len : f.srcs.length = f.blks.length
  at_ : ∀ k : Nat, k < f.blks.length → f.src k = srcs (bsOf f.blks) (k : Int)
theorem src_out {f : RFn} (h : SrcOk f) {k : Nat} (hk : ¬ k < f.blks.length) : f.src k = [] := by
  unfold RFn.src
  rw [List.getD_eq_getElem?_getD, List.getElem?_eq_none (by rw [h.len]; omega)]
  rfl
theorem wf_of {f : RFn} (hok : FOk f.blks) (hn : f.blks.length ≤ 1000) (hv : validN f.nm f.pa f.va f.blks = 0) (hs : SrcOk f) : f.WF := by
  unfold validN at hv
  by_cases hbig : (sizeF f.blks : Int) > 20000 ∨ f.va > 20000
  · rw [if_pos hbig] at hv; cases hv
  rw [if_neg hbig] at hv
  have hg : GoodQ f.nm f.pa f.va f.blks := Classical.byContradiction fun hg => by
    rw [if_neg hg] at hv
    cases hv
  have hpar := hg.par
  have rd : ∀ (k : Nat) (x : FBlk), f.blks[k]? = some x → ReadsQ (Dm (tg (bsOf f.blks))) (fun _ => 20000) finR f.pa f.va f.blks k x := fun k x hx => by
    have hk := (List.getElem?_eq_some_iff.1 hx).1
    exact reads_of hx (hg.reads k hk)
  refine ⟨hok, hg.pos, hn, hpar.1, hpar.2.2, by omega, fun x hx => List.eq_nil_of_length_eq_zero (hg.phis x hx), fun k x hx => ?_, hs.len, fun k x t hx ht => ?_, fun k => ?_⟩
  · have hk := (List.getElem?_eq_some_iff.1 hx).1
    have hm := List.mem_of_getElem? hx
    have hr := rd k x hx
    refine ⟨by have := size_phisR hx; omega, by have := size_ins hx; omega, hg.ends x hm, fun he => ?_, fun he => ?_, hg.vals.1 x hm, fun i hi v hv => ?_, fun i hi hmk => ?_, fun p hp => ?_, fun p hp => ?_, fun p hp v hv => ?_⟩
    · have := hr.fin (.inl he); exact ⟨this.1, this.2.1⟩
    · refine ⟨(ends_sr hg x hm).2 he, ?_⟩
      by_cases hv : x.v = -1
      · omega
      · exact (hr.fin (.inr ⟨he, hv⟩)).2.1
    · obtain ⟨j, hj⟩ := List.mem_iff_getElem?.1 hi
      obtain ⟨q, hq⟩ := List.mem_iff_getElem?.1 hv
      have := hr.insts j i hj q v hq
      exact ⟨this.1, this.2.1⟩
    · obtain ⟨j, hj⟩ := List.mem_iff_getElem?.1 hi
      have := hg.vals.2.1 _ (defs_insR hx hj hmk)
      simp only at this
      omega
    · have := hg.vals.2.1 _ (defs_phiR hx hp)
      simp only at this
      omega
    · obtain ⟨j, hj⟩ := List.mem_iff_getElem?.1 hp
      rw [hs.at_ k hk]
      exact (hr.phis j p hj).1
    · obtain ⟨j, hj⟩ := List.mem_iff_getElem?.1 hp
      obtain ⟨q, hq⟩ := List.mem_iff_getElem?.1 hv
      have h1 := hr.phis j p hj
      obtain ⟨s, hsq⟩ := get_of (l := srcs (bsOf f.blks) (k : Int)) (i := q) (by rw [← h1.1]; exact (List.getElem?_eq_some_iff.1 hq).1)
      have := h1.2 q v s hq hsq
      exact ⟨this.1, this.2.1⟩
  · have hk := (List.getElem?_eq_some_iff.1 hx).1
    have he := hg.ends x (List.mem_of_getElem? hx)
    have ht0 : 0 ≤ t ∧ t < (f.blks.length : Int) := by
      rcases he with ⟨h0, ha, _⟩ | ⟨h0, ha, hb, _⟩ | ⟨h0, _⟩ | ⟨h0, _⟩ <;> rcases ht with ⟨h1, h2⟩ | ⟨h1, h2⟩ <;> first | omega | (rcases h2 with h2 | h2 <;> omega)
    rw [hs.at_ t.toNat (by omega), Int.toNat_of_nonneg ht0.1, mem_srcs, bsOf_len]
    refine ⟨⟨by omega, by omega⟩, ?_⟩
    rw [tg_in (by omega) (x := x.sb) (by rw [Int.toNat_natCast]; exact bsOf_get hx)]
    unfold tgx
    rw [List.mem_filter, bsOf_len]
    refine ⟨?_, by simp [inR, ht0]⟩
    show t ∈ (if x.e = 0 then [x.a] else if x.e = 1 then (if x.a = x.b then [x.a] else [x.a, x.b]) else [])
    rcases ht with ⟨h1, h2⟩ | ⟨h1, h2⟩
    · rw [if_pos h1, h2]; simp
    · rw [if_neg (by omega), if_pos h1]
      by_cases e : x.a = x.b
      · rw [if_pos e]; rcases h2 with h2 | h2 <;> simp [h2, e]
      · rw [if_neg e]; rcases h2 with h2 | h2 <;> simp [h2]
  · by_cases hk : k < f.blks.length
    · rw [hs.at_ k hk]
      have := srcsTo_len (bsOf f.blks) (k : Int) (bsOf f.blks).length
      unfold srcs
      rw [bsOf_len] at this ⊢
      omega
    · rw [src_out hs hk]; simp
end Go.Mor
namespace Go.Mor
open Go.RowKit
def tailOk (c : Code) (m : Nat) : Bool := (List.range (opsOf c).size).all fun i => Nat.blt i m || (List.range i).all (fun j => reach c (opsOf c).size i j)
theorem reach_lt {c : Code} (hpl : predsLt c = true) : ∀ {n j i : Nat}, j < (opsOf c).size → reach c n j i = true → i < j
  | 0, j, i, _, h => by simp [reach] at h
  | n + 1, j, i, hj, h => by
    have hp : ∀ k, k ∈ predsOf c j → k < j := by
      intro k hk
      simp only [predsLt, List.all_eq_true, List.mem_range] at hpl
      have := hpl j hj k hk
      simpa [Nat.blt_eq] using this
    simp only [reach, Bool.or_eq_true, List.any_eq_true] at h
    rcases h with h | ⟨k, hk, h⟩
    · exact hp i (memN_iff.1 h)
    · have h1 := hp k hk
      have := reach_lt hpl (by omega) h
      omega
theorem none_ready {c : Code} (hpl : predsLt c = true) {listed : Array Bool} (hsz : listed.size = (opsOf c).size) (hr : Region.ready .any (opsOf c) listed = []) : ∀ j, j < (opsOf c).size → listed.getD j false = true := by
  intro j
  induction j using Nat.strongRecOn with
  | _ j ih =>
    intro hj
    cases hq : listed.getD j false with
    | true => rfl
    | false =>
      exfalso
      have : j ∈ Region.ready .any (opsOf c) listed := by
        simp only [Region.ready, List.mem_filter, List.mem_range, Bool.and_eq_true, Bool.not_eq_true']
        have hjl : j < listed.size := by omega
        refine ⟨hj, ?_, ?_⟩
        · simp [Array.getD, hjl] at hq ⊢
          exact hq
        · have ho : (opsOf c)[j]? = some (opsOf c)[j] := by simp [hj]
          simp only [ho, Option.map_some, Option.getD_some]
          rw [Array.all_eq_true_iff_forall_mem]
          intro e he
          cases hb : Region.binds .any e with
          | false => rfl
          | true =>
            have hmem : e.on ∈ predsOf c j := by
              simp only [predsOf, ho, List.mem_map, List.mem_filter]
              exact ⟨e, ⟨Array.mem_toList_iff.2 he, hb⟩, rfl⟩
            have hlt : e.on < j := by
              simp only [predsLt, List.all_eq_true, List.mem_range] at hpl
              have := hpl j hj e.on hmem
              simpa [Nat.blt_eq] using this
            simp [ih e.on hlt (by omega)]
      rw [hr] at this
      simp at this
theorem ready_preds {c : Code} {listed : Array Bool} {i : Nat} (hr : i ∈ Region.ready .any (opsOf c) listed) : ∀ j, j ∈ predsOf c i → listed.getD j false = true := by
  obtain ⟨_, _, o, ho, hpre⟩ := ready_spec hr
  intro j hj
  simp only [predsOf, ho, List.mem_map, List.mem_filter] at hj
  obtain ⟨e, ⟨he, hb⟩, rfl⟩ := hj
  exact hpre e he hb
theorem ready_not {c : Code} {listed : Array Bool} (hsz : listed.size = (opsOf c).size) {i : Nat} (hr : i ∈ Region.ready .any (opsOf c) listed) : listed.getD i false = false := by
  obtain ⟨hlt, hnl, _⟩ := ready_spec hr
  have : i < listed.size := by omega
  simp [Array.getD, this] at hnl ⊢
  exact hnl
def restL (c : Code) (m : Nat) : Env → Env
  | [] => []
  | (t, v) :: r => match memN ((List.range m).filterMap (dstAt c)) t with
    | true => restL c m r
    | false => (t, v) :: restL c m r
theorem look_restL {c : Code} {m : Nat} : ∀ {env : Env} {t : Nat} {v : Value}, look (restL c m env) t = some v → (t, v) ∈ env ∧ ∀ j, j < m → dstAt c j ≠ some t
  | [], t, v, h => by simp [restL, look] at h
  | (k, u) :: r, t, v, h => by
    unfold restL at h
    cases hm : memN ((List.range m).filterMap (dstAt c)) k with
    | true =>
      rw [hm] at h
      obtain ⟨h1, h2⟩ := look_restL h
      exact ⟨List.mem_cons_of_mem _ h1, h2⟩
    | false =>
      rw [hm] at h
      simp only [look] at h
      cases hq : Nat.beq k t with
      | false =>
        rw [hq] at h
        obtain ⟨h1, h2⟩ := look_restL h
        exact ⟨List.mem_cons_of_mem _ h1, h2⟩
      | true =>
        rw [hq] at h
        injection h with h
        have := Nat.eq_of_beq_eq_true hq
        subst this
        subst h
        refine ⟨List.mem_cons_self .., fun j hj hdj => ?_⟩
        have : memN ((List.range m).filterMap (dstAt c)) k = true := memN_iff.2 (List.mem_filterMap.2 ⟨j, List.mem_range.2 hj, hdj⟩)
        rw [this] at hm
        cases hm
section
variable {P : Program} {c : Code} {K : Act → World → Prop} {Q : Exit → Act → World → Prop} {N : FN} {env0 : Env} {wr : World} {sp : Nat → Spec}
theorem lst_set {listed : Array Bool} {i j : Nat} (hi : i < listed.size) : (listed.setIfInBounds i true).getD j false = (decide (j = i) || listed.getD j false) := by
  by_cases e : i = j
  · subst e; simp [Array.getD_eq_getD_getElem?, hi]
  · have : ¬ j = i := fun h => e h.symm
    simp [Array.getD_eq_getD_getElem?, Array.getElem?_setIfInBounds_ne e, this]
theorem any_tail (hpl : predsLt c = true) {m : Nat} (ht : tailOk c m = true) : ∀ (n fuel k : Nat) (listed : Array Bool) (a : Act) (w : World), listed.size = (opsOf c).size → (opsOf c).size ≤ k + n → n ≤ fuel → m ≤ k → k ≤ (opsOf c).size →
    (∀ j, j < (opsOf c).size → listed.getD j false = decide (j < k)) → From P c K Q k a w → wpAny P .any (opsOf c) (Exit.then K Q) fuel listed a w := by
  intro n
  induction n with
  | zero =>
    intro fuel k listed a w hsz hs hf hmk hks hl h
    have hk : k = (opsOf c).size := by omega
    subst hk
    have hK : K a w := by
      unfold From at h
      rw [List.drop_eq_nil_of_le (by simp)] at h
      exact h
    have hno : ∀ i, ¬ i ∈ Region.ready .any (opsOf c) listed := fun i hi => by
      have h1 := ready_not hsz hi
      have h2 := (ready_spec hi).1
      rw [hl i h2] at h1
      simp [h2] at h1
    cases fuel with
    | zero => exact ⟨List.eq_nil_iff_forall_not_mem.2 hno, hK⟩
    | succ fuel => exact ⟨fun _ => hK, fun i hi => absurd hi (hno i)⟩
  | succ n ih =>
    intro fuel k listed a w hsz hs hf hmk hks hl h
    by_cases hk : k < (opsOf c).size
    · cases fuel with
      | zero => omega
      | succ fuel =>
        refine ⟨fun hr => ?_, fun i hi => ?_⟩
        · have := none_ready hpl hsz hr k hk
          rw [hl k hk] at this
          simp at this
        · have hin := ready_not hsz hi
          have hilt := (ready_spec hi).1
          have hik : i = k := by
            rw [hl i hilt] at hin
            have hge : k ≤ i := by simpa using hin
            rcases Nat.lt_or_eq_of_le hge with hgt | he
            · exfalso
              simp only [tailOk, List.all_eq_true, List.mem_range, Bool.or_eq_true] at ht
              have h1 : reach c (opsOf c).size i k = true := by
                rcases ht i hilt with h1 | h1
                · have : i < m := by simpa [Nat.blt_eq] using h1
                  omega
                · exact h1 k hgt
              cases hn : (opsOf c).size with
              | zero => omega
              | succ N' =>
                rw [hn] at h1
                simp only [reach, Bool.or_eq_true, List.any_eq_true] at h1
                rcases h1 with h1 | ⟨q, hq, h1⟩
                · have := ready_preds hi k (memN_iff.1 h1)
                  rw [hl k hk] at this
                  simp at this
                · have h2 := ready_preds hi q hq
                  have hqi : q < i := by
                    simp only [predsLt, List.all_eq_true, List.mem_range] at hpl
                    have := hpl i hilt q hq
                    simpa [Nat.blt_eq] using this
                  rw [hl q (by omega)] at h2
                  have h3 : q < k := by simpa using h2
                  have := reach_lt hpl (by omega) h1
                  omega
            · exact he.symm
          subst hik
          have ho : (opsOf c)[i]? = some (opsOf c)[i] := by simp [hk]
          generalize hoo : (opsOf c)[i] = o at ho
          unfold From at h
          rw [drop_at ho] at h
          unfold wpList at h
          have next : ∀ a' w', wpList P (opsOf c) (Exit.then K Q) ((opsOf c).toList.drop (i + 1)) a' w' → wpAny P .any (opsOf c) (Exit.then K Q) fuel (listed.setIfInBounds i true) a' w' := by
            intro a' w' h'
            refine ih fuel (i + 1) _ a' w' (by simpa using hsz) (by omega) (by omega) (by omega) (by omega) (fun j hj => ?_) h'
            rw [lst_set (by omega), hl j hj]
            by_cases e : j = i
            · subst e; simp
            · have : (j < i + 1) ↔ (j < i) := by omega
              simp [e, this]
          unfold wpOp
          rw [ho]
          simp only []
          split at h
          · rename_i hw
            rw [if_pos hw]
            exact h.imp (Oper.wp_mono next) id
          · rename_i hw
            rw [if_neg hw]
            exact next _ _ h
    · exact ih fuel k listed a w hsz (by omega) (by omega) hmk hks hl h
theorem draw_tail (hd : dstsOk c = true) (hdn : ∀ i d, dstAt c i = some d → d < N.n) (hpl : predsLt c = true) {m : Nat} (ht : tailOk c m = true) (hm : m ≤ (opsOf c).size) (hops : ∀ i, i < m → OpOK P c Q N env0 wr sp i)
    (hend : ∀ a w, (∀ listed : Array Bool, (∀ j, j < m → listed.getD j false = true) → (∀ j, m ≤ j → listed.getD j false = false) → Known c N env0 wr sp listed a w → From P c K Q m a w)) :
    ∀ (n fuel : Nat) (listed : Array Bool) (a : Act) (w : World), listed.size = (opsOf c).size → ((List.range (opsOf c).size).filter (fun j => !listed.getD j false)).length = n → n ≤ fuel → (∀ j, m ≤ j → listed.getD j false = false) → Known c N env0 wr sp listed a w →
      wpAny P .any (opsOf c) (Exit.then K Q) fuel listed a w := by
  intro n
  induction n using Nat.strongRecOn with
  | _ n ih =>
    intro fuel listed a w hsz hn hf hup hk
    by_cases hall : ∀ j, j < m → listed.getD j false = true
    · have hlen : (opsOf c).size ≤ m + n := by
        have h1 : ((List.range (opsOf c).size).filter (fun j => !listed.getD j false)).length = (opsOf c).size - m := by
          have e : (List.range (opsOf c).size).filter (fun j => !listed.getD j false) = (List.range (opsOf c).size).filter (fun j => decide (m ≤ j)) := by
            apply List.filter_congr
            intro j _
            by_cases hj : j < m
            · rw [hall j hj]; simp; omega
            · rw [hup j (by omega)]; simp; omega
          rw [e]
          have key : ∀ N, ((List.range N).filter (fun j => decide (m ≤ j))).length = N - m := by
            intro N
            induction N with
            | zero => simp
            | succ N ihN =>
              rw [List.range_succ, List.filter_append, List.length_append, ihN]
              by_cases h : m ≤ N
              · simp [h]; omega
              · simp [h]; omega
          exact key _
        omega
      refine any_tail hpl ht n fuel m listed a w hsz hlen hf (Nat.le_refl _) hm (fun j hj => ?_) (hend a w listed hall hup hk)
      by_cases h : j < m
      · rw [hall j h]; simp [h]
      · rw [hup j (by omega)]; simp [h]
    · have hpos : 0 < n := by
        rcases Nat.eq_zero_or_pos n with h0 | h0
        · exfalso
          apply hall
          intro j hj
          cases hq : listed.getD j false with
          | true => rfl
          | false =>
            have : j ∈ (List.range (opsOf c).size).filter (fun j => !listed.getD j false) := List.mem_filter.2 ⟨List.mem_range.2 (by omega), by rw [hq]; rfl⟩
            have := List.length_pos_of_mem this
            omega
        · exact h0
      cases fuel with
      | zero => omega
      | succ fuel =>
        refine ⟨fun hr => absurd (fun j hj => none_ready hpl hsz hr j (by omega)) hall, fun i hi => ?_⟩
        obtain ⟨h1, h2, _⟩ := ready_spec hi
        have him : i < m := by
          rcases Nat.lt_or_ge i m with h | h
          · exact h
          · exfalso
            apply hall
            intro j hj
            simp only [tailOk, List.all_eq_true, List.mem_range, Bool.or_eq_true] at ht
            have hre : reach c (opsOf c).size i j = true := by
              rcases ht i h1 with h3 | h3
              · have : i < m := by simpa [Nat.blt_eq] using h3
                omega
              · exact h3 j (by omega)
            exact donebefore (ls := fun q => listed.getD q false) (fun j hj q hq => hk.2.2.2.1 j hj q hq) (fun q hq => ready_preds hi q hq) hre
        have hni := ready_not hsz hi
        have hil : i < listed.size := by omega
        refine draw_step hd hdn (hops i him) hsz hi hk (fun a' w' hk' => ?_)
        have hlt : ((List.range (opsOf c).size).filter (fun j => !(listed.setIfInBounds i true).getD j false)).length < n := by
          rw [← hn]
          have hsub : ((List.range (opsOf c).size).filter (fun j => !(listed.setIfInBounds i true).getD j false)) = ((List.range (opsOf c).size).filter (fun j => !listed.getD j false)).filter (fun j => !(Nat.beq j i)) := by
            rw [List.filter_filter]
            apply List.filter_congr
            intro j _
            rw [lst_set hil]
            by_cases e : j = i
            · subst e; simp
            · have hb : Nat.beq j i = false := by
                cases hq : Nat.beq j i with
                | false => rfl
                | true => exact absurd (Nat.eq_of_beq_eq_true hq) e
              simp [e, hb]
          rw [hsub]
          have hmem : i ∈ (List.range (opsOf c).size).filter (fun j => !listed.getD j false) := List.mem_filter.2 ⟨List.mem_range.2 h1, by rw [hni]; rfl⟩
          exact List.length_filter_lt_length_iff_exists.2 ⟨i, hmem, by simp⟩
        refine ih _ hlt fuel _ a' w' (by simpa using hsz) rfl (by omega) (fun j hj => ?_) hk'
        rw [lst_set hil, hup j hj]
        have : j ≠ i := by omega
        simp [this]
theorem zdt (m : Nat) (sp : Nat → Spec) {a : Act} (hF : Fr a N env0) (hops : ∀ i, i < m → OpOK P c Q N env0 wr sp i)
    (h : ∀ a' w' (vs : Nat → Value), Kp wr w' → (∀ j, j < m → (sp j).ok (vs j) w') → Fr a' N (valsE c sp vs (List.range m) ++ restL c m env0) → From P c K Q m a' w')
    (ht : tailOk c m = true := by kernel_rfl) (hm' : Nat.ble m (opsOf c).size = true := by kernel_rfl)
    (hk : kind c = .region true := by kernel_rfl) (hm : P.follows .mixedOrders = true := by kernel_rfl) (hd : dstsOk c = true := by kernel_rfl) (hpl : predsLt c = true := by kernel_rfl) (hkeys : keysOk env0 = true := by kernel_rfl)
    (hdn : (List.range (opsOf c).size).all (fun i => okd (dstAt c i) N) = true := by kernel_rfl) : W P c K Q a wr := by
  have hdn' : ∀ i d, dstAt c i = some d → d < N.n := by
    intro i d hi
    have hlt : i < (opsOf c).size := by
      simp only [dstAt] at hi
      cases ho : (opsOf c)[i]? with
      | none => simp [ho] at hi
      | some o => exact (Array.getElem?_eq_some_iff.1 ho).1
    simp only [List.all_eq_true, List.mem_range] at hdn
    have := hdn i hlt
    rw [hi] at this
    simpa [okd, Nat.blt_eq] using this
  have hm2 := Nat.le_of_ble_eq_true hm'
  cases c <;> simp [kind] at hk
  rename_i id ops dr
  subst hk
  refine wp_region_any hm ?_
  have hrep : ∀ j, (Array.replicate ops.size false).getD j false = false := by
    intro j
    simp only [Array.getD_eq_getD_getElem?, Array.getElem?_replicate]
    split <;> rfl
  have h0 : Known (.region id ops true) N env0 wr sp (Array.replicate ops.size false) a { wr with drawn := wr.drawn + 1 } := by
    refine ⟨Mem.drew wr, hF.defers, hF.size, ?_, ⟨fun _ => undef, ?_⟩, fun t v htv _ => hF.slot t v (keys_look hkeys htv)⟩
    · intro j hj; rw [hrep j] at hj; cases hj
    · intro j hj; rw [hrep j] at hj; cases hj
  refine draw_tail (c := .region id ops true) hd hdn' hpl ht hm2 hops ?_ _ ops.size _ a _ (by simp [opsOf]) rfl ?_ (fun j _ => hrep j) h0
  · intro a' w' listed hall hup hk
    obtain ⟨hkp, hdef, hsz, _, ⟨vs, hvs⟩, hbase⟩ := hk
    refine h a' w' vs hkp (fun j hj => (hvs j (hall j hj)).1) ⟨hdef, hsz, fun t v hv => ?_⟩
    rcases look_append hv with h1 | h1
    · obtain ⟨j, hj, hdj, rfl⟩ := look_vals h1
      obtain ⟨h2, h3⟩ := hvs j (hall j (List.mem_range.1 hj))
      rw [Spec.val_ok h2]
      exact h3 t hdj
    · obtain ⟨h2, h3⟩ := look_restL h1
      refine hbase t v h2 (fun j hj => ?_)
      rcases Nat.lt_or_ge j m with hjm | hjm
      · exact h3 j hjm
      · rw [hup j hjm] at hj; cases hj
  · refine Nat.le_trans (List.length_filter_le _ _) ?_
    simp [opsOf]
def Spec.never : Spec := .any (fun _ _ => False) (fun _ _ _ _ h => h)
variable {i : Nat}
theorem dF {f : FuncId} {vs : List Value} {Ψ : Value → World → Prop} (hc : ∀ w, Kp wr w → Calls P f vs.toArray w (REnds (fun _ _ => False) Ψ)) (hq : ∀ v w', Ψ v w' → ∀ a, a.defers = N.D → Q (pan v) a w')
    (hg : ∀ vs, gtE c i (predE c i sp vs env0) = some true := by intro _; kernel_rfl)
    (hk : ∀ us, clE2 P (one c i) N (predE c i sp us env0) 0 = some (dstAt c i, f, vs) := by intro _; kernel_rfl) : OpOK P c Q N env0 wr sp i := by
  refine op_of hg (fun w us hK hp a hF => ?_)
  exact From_clE _ f vs hF (hk us) (hc w hK) (fun v w' hv' a' ea _ => hv'.elim) (fun v w' hv' => hq v w' hv' a hF.defers)
end
theorem xpd {P : Program} {fn : Func} {Φ Ψ : Value → World → Prop} {v : Value} {a : Act} {w : World} {N : FN} (hd : a.defers = N.D) (h : Ψ v w) (hD : N.D = [] := by rfl) : bodyPost P fn (REnds Φ Ψ) (pan v) a w := ⟨hd.trans hD, v, rfl, h⟩
def paE (c : Code) (env : Env) (k : Nat) : Option Value := match coreAt c k with
  | some (_, .panic x, _, g) => match guardE c g env, ev env x with
    | some true, some v => some v
    | _, _ => none
  | _ => none
theorem zpa {P : Program} {c : Code} {K : Act → World → Prop} {Q : Exit → Act → World → Prop} {w : World} {k : Nat} {N : FN} {env : Env} (t : TypeId) (v : Value) (h : ∀ a, Fr a N env → Q (pan (.iface t v)) a w) (hk : paE c env k = some (.iface t v) := by kernel_rfl) : ∀ a, Fr a N env → From P c K Q k a w := fun a hF => by
  unfold paE at hk
  split at hk
  · rename_i h0
    split at hk
    · rename_i h1 h2
      injection hk with hk
      exact From_panic h0 hF h1 (h2.trans (congrArg some hk)) (h a hF)
    · cases hk
  · cases hk
end Go.Mor

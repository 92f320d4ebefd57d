/-
  Texts of the proof, part 3.
-/
import Derived.Test.YtejbeeaomokjpaaZA2
import Derived.Maps.AppendAt
set_option maxRecDepth 10000
namespace Go.Mor
open Go.RowKit
def Ret (Φ : Value → World → Prop) (e : Ending) (w : World) : Prop := ∃ v, e = .returned v ∧ Φ v w
def oneT (P : Program) (t : TypeId) : Bool := match P.underlying t with
  | some (.struct _) => false
  | some (.array _ _) => false
  | some _ => match P.info? t with
    | some i => Nat.beq i.size 1
    | none => false
  | none => false
def aggT (P : Program) (t : TypeId) : Option Nat := match P.underlying t with
  | some (.struct _) => (P.info? t).map (·.size)
  | some (.array _ _) => (P.info? t).map (·.size)
  | _ => none
theorem isAgg_one {P : Program} {t : TypeId} (h : oneT P t = true) (w : World) : (isAgg t).run P w = .ok false w := by
  unfold oneT at h
  split at h
  · cases h
  · cases h
  · rename_i d h1 h2 u
    simp only [isAgg, Sem.run_bind, run_underlying u, Result.andThen_ok]
    cases d <;> first | rfl | (exact absurd rfl (h1 _)) | (exact absurd rfl (h2 _ _))
  · cases h
theorem size_one {P : Program} {t : TypeId} (h : oneT P t = true) (w : World) : (sizeOf t).run P w = .ok 1 w := by
  unfold oneT at h
  split at h
  · cases h
  · cases h
  · split at h
    · rename_i i hi
      have : i.size = 1 := Nat.eq_of_beq_eq_true h
      simp [sizeOf, typeInfo, hi, this]
    · cases h
  · cases h
theorem isAgg_agg {P : Program} {t : TypeId} {n : Nat} (h : aggT P t = some n) (w : World) : (isAgg t).run P w = .ok true w ∧ (sizeOf t).run P w = .ok n w := by
  unfold aggT at h
  split at h
  · rename_i u
    cases hi : P.info? t with
    | none => simp [hi] at h
    | some i => simp [hi] at h; subst h; simp [isAgg, run_underlying u, sizeOf, typeInfo, hi]
  · rename_i u
    cases hi : P.info? t with
    | none => simp [hi] at h
    | some i => simp [hi] at h; subst h; simp [isAgg, run_underlying u, sizeOf, typeInfo, hi]
  · cases h
theorem one_cells {v : Value} (h : v.oneCell' = true) : v.cells = #[v] := by cases v <;> simp [Value.oneCell'] at h <;> rfl
section
variable {P : Program} {c : Code} {K : Act → World → Prop} {Q : Exit → Act → World → Prop} {a : Act} {w w0 : World} {S : Nat → Prop} {L : List Res} {k k' : Nat} {N : FN} {env : Env}
variable {d : Option Nat} {ty : Nat} {g : Option (Nat × Bool)}
theorem From_same {op : Op} (hk : coreAt c k = some (d, op, ty, g)) (hF : Fr a N env) (hg : guardE c g env = some true) (hd : okd d N = true) (hk' : k + 1 = k') {v : Value}
    (hr : ∀ o : Oper, o.op = op → (execOp a.eval o).run P w = .ok (.value v) w)
    (h : ∀ a', a' = a.put d v → Fr a' N (putE env d v) → From P c K Q k' a' w) : From P c K Q k a w := by
  subst hk'
  exact From_val hk hF hg (fun o ho _ => hr o ho) (h _ rfl (hF.put hd v))
theorem From_pure1 {op : Op} (hk : coreAt c k = some (d, op, ty, g)) (hF : Fr a N env) (hg : guardE c g env = some true) (hd : okd d N = true) (hk' : k + 1 = k') {v : Value} (hv : pureOp P env op = some v)
    (h : ∀ a', a' = a.put d v → Fr a' N (putE env d v) → From P c K Q k' a' w) : From P c K Q k a w :=
  From_same hk hF hg hd hk' (fun _ ho => run_pure hF hv ho w) h
theorem From_load1 {t : TypeId} {x : Operand} (hk : coreAt c k = some (d, .load t x, ty, g)) (hF : Fr a N env) (hg : guardE c g env = some true) (hd : okd d N = true) (hk' : k + 1 = k')
    {ad : Addr} {v : Value} (hx : ev env x = some (.pointer (some ad))) (ht : oneT P t = true) (hc : w.cell? ad = some v)
    (h : ∀ a', a' = a.put d v → Fr a' N (putE env d v) → From P c K Q k' a' w) : From P c K Q k a w := by
  refine From_same hk hF hg hd hk' (fun o ho => ?_) h
  unfold execOp
  rw [ho]
  simp [Instr.loadAt, Instr.sureAddr, hF.ev hx, loadVar, isAgg_one ht, hc]
theorem From_loadS {t : TypeId} {x : Operand} (hk : coreAt c k = some (d, .load t x, ty, g)) (hF : Fr a N env) (hg : guardE c g env = some true) (hd : okd d N = true) (hk' : k + 1 = k')
    {ad : Addr} {vs : List Value} (hx : ev env x = some (.pointer (some ad))) (ht : aggT P t = some vs.length) (hc : ∀ j v, vs[j]? = some v → w.cell? (ad.add j) = some v)
    (h : ∀ a', a' = a.put d (.agg vs.toArray) → Fr a' N (putE env d (.agg vs.toArray)) → From P c K Q k' a' w) : From P c K Q k a w := by
  refine From_same hk hF hg hd hk' (fun o ho => ?_) h
  unfold execOp
  rw [ho]
  obtain ⟨h1, h2⟩ := isAgg_agg ht w
  simp [Instr.loadAt, Instr.sureAddr, hF.ev hx, loadVar, h1, h2, run_loadCells_list (P := P) w ad vs hc]
theorem From_arith {op : BinOp} {t t' : TypeId} {x y : Operand} (hk : coreAt c k = some (d, .binOp op t x y t', ty, g)) (hF : Fr a N env) (hg : guardE c g env = some true) (hd : okd d N = true) (hk' : k + 1 = k')
    {i j z : Int} (hx : ev env x = some (.int .i64 i)) (hy : ev env y = some (.int .i64 j)) (hz : arI op i j = some z) (h1 : -9223372036854775808 ≤ z) (h2 : z ≤ 9223372036854775807)
    (h : ∀ a', a' = a.put d (.int .i64 z) → Fr a' N (putE env d (.int .i64 z)) → From P c K Q k' a' w) : From P c K Q k a w := by
  refine From_same hk hF hg hd hk' (fun o ho => ?_) h
  unfold execOp
  rw [ho]
  have hw : IntKind.i64.wrap z = z := IntWalk.i64_in z ⟨h1, h2⟩
  cases op <;> simp only [arI] at hz <;> first
    | (cases hz; done)
    | (injection hz with hz; subst hz; simp [hF.ev hx, hF.ev hy, eqGuard, binOp, Op.intArith, hw])
theorem From_cmp {op : BinOp} {t t' : TypeId} {x y : Operand} (hk : coreAt c k = some (d, .binOp op t x y t', ty, g)) (hF : Fr a N env) (hg : guardE c g env = some true) (hd : okd d N = true) (hk' : k + 1 = k')
    {kd : IntKind} {i j : Int} {b : Bool} (hx : ev env x = some (.int kd i)) (hy : ev env y = some (.int kd j)) (hb : cmpI op i j = some b)
    (h : ∀ B, B = b → ∀ a', a' = a.put d (.bool B) → Fr a' N (putE env d (.bool B)) → From P c K Q k' a' w) : From P c K Q k a w := by
  refine From_same hk hF hg hd hk' (fun o ho => ?_) (h b rfl)
  refine run_pure hF (op := .binOp op t x y t') ?_ ho w
  simp [pureOp, hx, hy, hb]
theorem From_box {t : TypeId} {x : Operand} (hk : coreAt c k = some (d, .box t x, ty, g)) (hF : Fr a N env) (hg : guardE c g env = some true) (hd : okd d N = true) (hk' : k + 1 = k')
    {v : Value} {cs : List Value} (hx : ev env x = some v) (hcs : v.cells = cs.toArray) (hM : Mem S w0 w L)
    (h : ∀ b w', w0.heap.size ≤ b → w.heap.size ≤ b → Mem S w0 w' (L ++ [.blk b t cs]) → Mem noS w w' [.blk b t cs] → ∀ a', a' = a.put d (.pointer (some ⟨b, 0, none⟩)) → Fr a' N (putE env d (.pointer (some ⟨b, 0, none⟩))) → From P c K Q k' a' w') : From P c K Q k a w := by
  subst hk'
  refine From_val hk hF hg (v := .pointer (some ⟨w.heap.size, 0, none⟩)) (w' := w.alloc (.cells cs.toArray t)) (fun o ho _ => ?_)
    (h w.heap.size (w.alloc (.cells cs.toArray t)) hM.size (Nat.le_refl _) (hM.call (Mem.alloc w t cs)) (Mem.alloc w t cs) _ rfl (hF.put hd _))
  unfold execOp
  rw [ho]
  simp [Instr.box, hF.ev hx, newVar, newRow, hcs]
theorem From_alloc {t : TypeId} (hk : coreAt c k = some (d, .alloc t, ty, g)) (hF : Fr a N env) (hg : guardE c g env = some true) (hd : okd d N = true) (hk' : k + 1 = k')
    {cs : List Value} (hz : (P.info? t).map (fun i => i.zero.map (fun z => z.cells.toList)) = some (some cs)) (hM : Mem S w0 w L)
    (h : ∀ b w', w0.heap.size ≤ b → w.heap.size ≤ b → Mem S w0 w' (L ++ [.blk b t cs]) → Mem noS w w' [.blk b t cs] → ∀ a', a' = a.put d (.pointer (some ⟨b, 0, none⟩)) → Fr a' N (putE env d (.pointer (some ⟨b, 0, none⟩))) → From P c K Q k' a' w') : From P c K Q k a w := by
  subst hk'
  refine From_val hk hF hg (v := .pointer (some ⟨w.heap.size, 0, none⟩)) (w' := w.alloc (.cells cs.toArray t)) (fun o ho _ => ?_)
    (h w.heap.size (w.alloc (.cells cs.toArray t)) hM.size (Nat.le_refl _) (hM.call (Mem.alloc w t cs)) (Mem.alloc w t cs) _ rfl (hF.put hd _))
  unfold execOp
  rw [ho]
  cases hi : P.info? t with
  | none => simp [hi] at hz
  | some i =>
    cases hzz : i.zero with
    | none => simp [hi, hzz] at hz
    | some z =>
      simp [hi, hzz] at hz
      subst hz
      simp [Instr.alloc, zeroValue, typeInfo, hi, hzz, newVar, newRow]
theorem From_store_blk {t : TypeId} {x y : Operand} (hk : coreAt c k = some (d, .store t x y, ty, g)) (hF : Fr a N env) (hg : guardE c g env = some true) (hd : okd d N = true) (hk' : k + 1 = k')
    {b off t0 : Nat} {v : Value} {cs : List Value} (hx : ev env x = some (.pointer (some ⟨b, off, none⟩))) (hy : ev env y = some v) (ht : oneT P t = true) (hv : v.oneCell' = true) (hM : Mem S w0 w L)
    (i : Nat) (hi : L[i]? = some (.blk b t0 cs)) (ho : off < cs.length)
    (h : ∀ w', Mem S w0 w' (L.set i (.blk b t0 (cs.set off v))) → Mem (Res.blk b t0 cs).fp w w' [.blk b t0 (cs.set off v)] → ∀ a', a' = a.put d undef → Fr a' N (putE env d undef) → From P c K Q k' a' w') : From P c K Q k a w := by
  subst hk'
  have hb := hM.get i hi
  have hm := Mem.set_blk (i := off) hb v
  refine From_unit hk hF hg (w' := w.setCell ⟨b, off, none⟩ v) (fun o ho' => ?_) (h _ (by simpa using hM.mod i hi hm) hm _ rfl (hF.put hd _))
  have hcell : w.cell? ⟨b, off, none⟩ = some cs[off] := blk_cell hb (by simp [ho])
  unfold execOp
  rw [ho']
  have hst : (store ⟨b, off, none⟩ v).run P w = .ok () (w.setCell ⟨b, off, none⟩ v) := by rw [run_store P w _ v .plain hv, hcell]; simp [blk_frozen hb]
  simp [Instr.storeAt, Instr.sureAddr, hF.ev hx, hF.ev hy, storeVar, one_cells hv, size_one ht, storeCells, Addr.add, hst]
theorem From_store_row {t : TypeId} {x y : Operand} (hk : coreAt c k = some (d, .store t x y, ty, g)) (hF : Fr a N env) (hg : guardE c g env = some true) (hd : okd d N = true) (hk' : k + 1 = k')
    {ad : Addr} {j e size n cap : Nat} {v : Value} {xs : List Value} {ad' : Addr} (hx : ev env x = some (.pointer (some ad'))) (had : ad' = ad.add j) (hy : ev env y = some v) (ht : oneT P t = true) (hv : v.oneCell' = true) (hM : Mem S w0 w L)
    (i : Nat) (hi : L[i]? = some (.row e size (some ad) n cap xs)) (hj : j < n * size)
    (h : ∀ w', Mem S w0 w' (L.set i (.row e size (some ad) n cap (xs.set j v))) → Mem (Res.row e size (some ad) n cap xs).fp w w' [.row e size (some ad) n cap (xs.set j v)] → ∀ a', a' = a.put d undef → Fr a' N (putE env d undef) → From P c K Q k' a' w') : From P c K Q k a w := by
  subst hk'
  subst had
  have hb := hM.get i hi
  have hm := Mem.set_row (j := j) hb v
  refine From_unit hk hF hg (w' := w.setCell (ad.add j) v) (fun o ho' => ?_) (h _ (by simpa using hM.mod i hi hm) hm _ rfl (hF.put hd _))
  have hl : j < xs.length := by rw [row_len hb]; exact hj
  obtain ⟨a', ha', hcell⟩ := row_rd hb j xs[j] (by simp [hl])
  injection ha' with ha'
  subst ha'
  unfold execOp
  rw [ho']
  have hst : (store (ad.add j) v).run P w = .ok () (w.setCell (ad.add j) v) := by rw [run_store P w _ v .plain hv, hcell]; simp [row_frozen hb]
  have h0 : (ad.add j).add 0 = ad.add j := by simp [Addr.add]
  simp [Instr.storeAt, Instr.sureAddr, hF.ev hx, hF.ev hy, storeVar, one_cells hv, size_one ht, storeCells, h0, hst]
theorem storeCells_blk {b t0 : Nat} : ∀ (vs : List Value) (i : Nat) {cs : List Value} {w : World}, (∀ v ∈ vs, v.oneCell' = true) → (Res.blk b t0 cs).holds w → i + vs.length ≤ cs.length →
    ∃ w', (storeCells ⟨b, 0, none⟩ vs i).run P w = .ok () w' ∧ Mem (Res.blk b t0 cs).fp w w' [.blk b t0 (cs.take i ++ vs ++ cs.drop (i + vs.length))]
  | [], i, cs, w, _, hb, _ => ⟨w, by simp [storeCells], by simpa using Mem.initS hb⟩
  | v :: vs, i, cs, w, h1, hb, hl => by
    simp only [List.length_cons] at hl
    have hm := Mem.set_blk (i := i) hb v
    have hb' := hm.get 0 rfl
    obtain ⟨w', hr, hm'⟩ := storeCells_blk vs (i + 1) (fun u hu => h1 u (List.mem_cons_of_mem _ hu)) hb' (by simp; omega)
    refine ⟨w', ?_, ?_⟩
    · have e : (⟨b, 0, none⟩ : Addr).add i = ⟨b, i, none⟩ := by unfold Addr.add; split <;> simp_all
      have hcell : w.cell? ⟨b, i, none⟩ = some (cs[i]'(by omega)) := blk_cell hb (by simp)
      have hst : (store ⟨b, i, none⟩ v).run P w = .ok () (w.setCell ⟨b, i, none⟩ v) := by
        rw [run_store P w _ v .plain (h1 v (List.mem_cons_self ..)), hcell]; simp [blk_frozen hb]
      simp only [storeCells, Sem.run_bind, e, hst, Result.andThen_ok, hr]
    · have hlist : (cs.set i v).take (i + 1) ++ vs ++ (cs.set i v).drop (i + 1 + vs.length) = cs.take i ++ v :: vs ++ cs.drop (i + (v :: vs).length) := by
        rw [List.take_succ_eq_append_getElem (by simp; omega), List.drop_set, if_pos (by omega)]
        simp [List.take_set_of_le (Nat.le_refl _), Nat.add_assoc, Nat.add_comm 1]
      rw [hlist] at hm'
      have := hm.mod 0 rfl hm'
      simpa using this
theorem From_storeS_blk {t : TypeId} {x y : Operand} (hk : coreAt c k = some (d, .store t x y, ty, g)) (hF : Fr a N env) (hg : guardE c g env = some true) (hd : okd d N = true) (hk' : k + 1 = k')
    {b t0 : Nat} {vs cs : List Value} (hx : ev env x = some (.pointer (some ⟨b, 0, none⟩))) (hy : ev env y = some (.agg vs.toArray)) (ht : aggT P t = some vs.length) (hv : ∀ v ∈ vs, v.oneCell' = true) (hM : Mem S w0 w L)
    (i : Nat) (hi : L[i]? = some (.blk b t0 cs)) (ho : cs.length = vs.length)
    (h : ∀ w', Mem S w0 w' (L.set i (.blk b t0 vs)) → Mem (Res.blk b t0 cs).fp w w' [.blk b t0 vs] → ∀ a', a' = a.put d undef → Fr a' N (putE env d undef) → From P c K Q k' a' w') : From P c K Q k a w := by
  subst hk'
  have hb := hM.get i hi
  obtain ⟨w', hr, hm⟩ := storeCells_blk (P := P) vs 0 hv hb (by omega)
  have hl : cs.take 0 ++ vs ++ cs.drop (0 + vs.length) = vs := by simp [← ho]
  rw [hl] at hm
  refine From_unit hk hF hg (w' := w') (fun o ho' => ?_) (h _ (by simpa using hM.mod i hi hm) hm _ rfl (hF.put hd _))
  unfold execOp
  rw [ho']
  simp [Instr.storeAt, Instr.sureAddr, hF.ev hx, hF.ev hy, storeVar, (isAgg_agg ht w).2, Value.cells, hr]
theorem From_index {t : TypeId} {x y : Operand} (hk : coreAt c k = some (d, .indexAddr t x y, ty, g)) (hF : Fr a N env) (hg : guardE c g env = some true) (hd : okd d N = true) (hk' : k + 1 = k')
    {A : Option Addr} {ad : Addr} {n cap e size : Nat} {kd : IntKind} {i : Int} (hx : ev env x = some (.slice A n cap)) (hy : ev env y = some (.int kd i)) (hA : A = some ad)
    (ht : P.underlying t = some (.slice e)) (hs : (P.info? e).map (·.size) = some size) (h0 : 0 ≤ i) (h1 : i < n)
    (h : ∀ a', a' = a.put d (.pointer (some (ad.add (i.toNat * size)))) → Fr a' N (putE env d (.pointer (some (ad.add (i.toNat * size))))) → From P c K Q k' a' w) : From P c K Q k a w := by
  subst hA
  refine From_same hk hF hg hd hk' (fun o ho => ?_) h
  unfold execOp
  rw [ho]
  cases hi : P.info? e with
  | none => simp [hi] at hs
  | some inf =>
    simp [hi] at hs
    subst hs
    simp [Instr.indexAt, asIntOf, hF.ev hx, hF.ev hy, run_underlying ht, h0, h1, sizeOf, typeInfo, hi]
theorem From_sliceHi {t : TypeId} {x y : Operand} (hk : coreAt c k = some (d, .slice t x none (some y) none, ty, g)) (hF : Fr a N env) (hg : guardE c g env = some true) (hd : okd d N = true) (hk' : k + 1 = k')
    {A : Option Addr} {n cap e size : Nat} {kd : IntKind} {i : Int} (m : Nat) (hx : ev env x = some (.slice A n cap)) (hy : ev env y = some (.int kd i)) (hm : i = (m : Int))
    (ht : P.underlying t = some (.slice e)) (hs : (P.info? e).map (·.size) = some size) (h1 : m ≤ cap)
    (h : ∀ a', a' = a.put d (.slice A m cap) → Fr a' N (putE env d (.slice A m cap)) → From P c K Q k' a' w) : From P c K Q k a w := by
  refine From_same hk hF hg hd hk' (fun o ho => ?_) h
  subst hm
  unfold execOp
  rw [ho]
  cases hi : P.info? e with
  | none => simp [hi] at hs
  | some inf =>
    have hA : (if cap = 0 then A else A.map (·.add 0)) = A := by
      split
      · rfl
      · cases A <;> simp [Addr.add]
    simp [Instr.sliceAt, Instr.slice, Instr.sliceBounds, Instr.sliceBound, asIntOf, hF.ev hx, hF.ev hy, run_underlying ht, sizeOf, typeInfo, hi, h1, hA]
theorem From_sliceLo {t : TypeId} {x y : Operand} (hk : coreAt c k = some (d, .slice t x (some y) none none, ty, g)) (hF : Fr a N env) (hg : guardE c g env = some true) (hd : okd d N = true) (hk' : k + 1 = k')
    {A : Option Addr} {n cap e size : Nat} {kd : IntKind} {i : Int} (m : Nat) (hx : ev env x = some (.slice A n cap)) (hy : ev env y = some (.int kd i)) (hm : i = (m : Int))
    (ht : P.underlying t = some (.slice e)) (hs : (P.info? e).map (·.size) = some size) (h1 : m ≤ n)
    (h : ∀ a', a' = a.put d (.slice (if cap = m then A else A.map (·.add (m * size))) (n - m) (cap - m)) → Fr a' N (putE env d (.slice (if cap = m then A else A.map (·.add (m * size))) (n - m) (cap - m))) → From P c K Q k' a' w) : From P c K Q k a w := by
  refine From_same hk hF hg hd hk' (fun o ho => ?_) h
  subst hm
  unfold execOp
  rw [ho]
  cases hi : P.info? e with
  | none => simp [hi] at hs
  | some inf =>
    simp [hi] at hs
    subst hs
    simp [Instr.sliceAt, Instr.slice, Instr.sliceBounds, Instr.sliceBound, asIntOf, hF.ev hx, hF.ev hy, run_underlying ht, sizeOf, typeInfo, hi, h1]
theorem From_buildSlice {t : TypeId} {len : Nat} {ps : Array (Nat × Operand)} (hk : coreAt c k = some (d, .buildSlice t len ps, ty, g)) (hF : Fr a N env) (hg : guardE c g env = some true) (hd : okd d N = true) (hk' : k + 1 = k')
    {e size : Nat} {zs : List Value} {vs : List (Nat × Value)} {cs : List Value} (ht : P.underlying t = some (.slice e))
    (hi : (P.info? e).map (fun i => (i.size, i.zero.map (·.cells.toList))) = some (size, some zs)) (hp : parts env ps.toList = some vs)
    (hsz : (Nat.ble 1 (len * size) && Nat.ble (len * size) 1000) = true)
    (hfill : Instr.fill (fun i => some (i * size, size)) ((Array.range (len * size)).map (zs.toArray[· % zs.toArray.size]!)) vs = some cs.toArray) (hl : Nat.beq cs.length (len * size) = true) (hM : Mem S w0 w L)
    (h : ∀ b w', w0.heap.size ≤ b → w.heap.size ≤ b → Mem S w0 w' (L ++ [.row e size (some ⟨b, 0, none⟩) len len cs]) → Mem noS w w' [.row e size (some ⟨b, 0, none⟩) len len cs] →
      ∀ a', a' = a.put d (.slice (some ⟨b, 0, none⟩) len len) → Fr a' N (putE env d (.slice (some ⟨b, 0, none⟩) len len)) → From P c K Q k' a' w') : From P c K Q k a w := by
  subst hk'
  have hsz1 : 1 ≤ len * size ∧ len * size ≤ 1000 := by
    rw [Bool.and_eq_true] at hsz
    exact ⟨Nat.le_of_ble_eq_true hsz.1, Nat.le_of_ble_eq_true hsz.2⟩
  have hcl : cs.length = len * size := Nat.eq_of_beq_eq_true hl
  have hsp : 0 < size := by
    rcases Nat.eq_zero_or_pos size with h0 | h0
    · rw [h0] at hsz1; omega
    · exact h0
  have hlen : len ≤ 1000 := Nat.le_trans (Nat.le_mul_of_pos_right _ hsp) hsz1.2
  have hrow : (Res.row e size (some ⟨w.heap.size, 0, none⟩) len len cs).holds (w.alloc (.cells cs.toArray e)) := by
    have := World.ownsRow_lit (base := 0) (e := e) (size := size) w cs.toArray len (Nat.zero_le _) (by simp only [maxLen]; omega) (by simpa using hcl)
    show World.ownsRow _ _ _ _ _ _ _
    simpa using this
  have hm : Mem noS w (w.alloc (.cells cs.toArray e)) [.row e size (some ⟨w.heap.size, 0, none⟩) len len cs] := by
    refine (Mem.alloc w e cs).say 0 rfl (fun _ => hrow) ?_
    rintro g' ⟨a', ha', rfl⟩
    injection ha' with ha'
    subst ha'
    rfl
  refine From_val hk hF hg (v := .slice (some ⟨w.heap.size, 0, none⟩) len len) (w' := w.alloc (.cells cs.toArray e)) (fun o ho _ => ?_)
    (h w.heap.size (w.alloc (.cells cs.toArray e)) hM.size (Nat.le_refl _) (hM.call hm) hm _ rfl (hF.put hd _))
  unfold execOp
  rw [ho]
  have e1 := parts_map hF hp
  have e2 : (ps.map fun (i, x) => (i, a.eval x)) = vs.toArray := by apply Array.ext'; simpa using e1
  cases hi' : P.info? e with
  | none => simp [hi'] at hi
  | some inf =>
    simp only [hi', Option.map_some, Option.some.injEq, Prod.mk.injEq] at hi
    obtain ⟨hs, hz⟩ := hi
    subst hs
    cases hzz : inf.zero with
    | none => simp [hzz] at hz
    | some z =>
      simp only [hzz, Option.map_some, Option.some.injEq] at hz
      subst hz
      have n1 : ¬ (16777216 < len * inf.size) := by omega
      have n2 : ¬ (len * inf.size = 0) := by omega
      have hfill' : Instr.fill (fun i => some (i * inf.size, inf.size)) ((Array.range (len * inf.size)).map (z.cells[· % z.cells.size]!)) vs = some cs.toArray := by simpa using hfill
      have hs0 : (sizeOf e).run P w = .ok inf.size w := by simp [sizeOf, typeInfo, hi']
      have hz0 : (zeroValue e).run P w = .ok z w := by simp [zeroValue, typeInfo, hi', hzz]
      simp only [Instr.buildSlice, Sem.run_bind, run_underlying ht, hs0, Result.andThen_ok, e2, Nat.reducePow, gt_iff_lt, n1, n2, if_false, Sem.run_pure, Sem.run_ite, hz0, hfill', newRow, run_newObj]
      rfl
theorem From_make1 {t : TypeId} {x y : Operand} (hk : coreAt c k = some (d, .makeSlice t x y, ty, g)) (hF : Fr a N env) (hg : guardE c g env = some true) (hd : okd d N = true) (hk' : k + 1 = k')
    {e bytes : Nat} {z : Value} {n : Nat} {i : Int} (hx : ev env x = some (.int .i64 i)) (hy : ev env y = some (.int .i64 i)) (hn : i = (n : Int)) (ht : P.underlying t = some (.slice e))
    (hi : (P.info? e).map (fun i => (i.size, i.bytes, i.zero)) = some (1, bytes, some z)) (hz : z.oneCell' = true) (hb : bytes * n ≤ 140737488355328) (hl : n ≤ maxLen) (hM : Mem S w0 w L)
    (h : ∀ b w', w0.heap.size ≤ b → w.heap.size ≤ b → Mem S w0 w' (L ++ [.row e 1 (some ⟨b, 0, none⟩) n n (List.replicate n z)]) → Mem noS w w' [.row e 1 (some ⟨b, 0, none⟩) n n (List.replicate n z)] →
      ∀ a', a' = a.put d (.slice (some ⟨b, 0, none⟩) n n) → Fr a' N (putE env d (.slice (some ⟨b, 0, none⟩) n n)) → From P c K Q k' a' w') : From P c K Q k a w := by
  subst hk'
  subst hn
  cases hi' : P.info? e with
  | none => simp [hi'] at hi
  | some inf =>
    simp only [hi', Option.map_some, Option.some.injEq, Prod.mk.injEq] at hi
    obtain ⟨hs, hby, hzz⟩ := hi
    subst hby
    obtain ⟨w', hr, hown, hgr⟩ := run_make_full (P := P) w 0 t e inf z 1 ht hi' hzz hs .i64 .i64 n (by omega) hl (Nat.zero_le _)
    rw [one_cells hz, Nat.mul_one, toList_madeCells_one] at hown
    have hm : Mem noS w w' [.row e 1 (some ⟨w.heap.size, 0, none⟩) n n (List.replicate n z)] := by
      refine ⟨hgr.os, hgr.tape, hgr.output, hgr.size, fun k hk _ => hgr.block k hk (by simp), ?_, List.pairwise_singleton _ _⟩
      simp only [List.mem_singleton]
      rintro _ rfl
      refine ⟨hown, ?_⟩
      rintro g' ⟨a', ha', rfl⟩
      injection ha' with ha'
      subst ha'
      exact .inr (Nat.le_refl _)
    refine From_val hk hF hg (v := .slice (some ⟨w.heap.size, 0, none⟩) n n) (w' := w') (fun o ho _ => ?_) (h w.heap.size w' hM.size (Nat.le_refl _) (hM.call hm) hm _ rfl (hF.put hd _))
    unfold execOp
    rw [ho]
    simp only [hF.ev hx, hF.ev hy, Sem.run_bind, hr, Result.andThen_ok]
    rfl
theorem run_append_of_nil' (w : World) (t ty e : TypeId) (i : TypeInfo) (size : Nat) (ht : P.underlying t = some (.slice e)) (hi : P.info? e = some i)
    (v : Value) (n : Nat) (xs : List Value) (hown : w.ownsRow 0 e size v n xs) (c : Nat) : (Builtin.append_ #[t, t] ty #[v, .slice none 0 c]).run P w = .ok v w := by
  rcases hown.2 with ⟨rfl, rfl⟩ | ⟨g, cap, cur, rfl, _, _, hnc, _⟩
  · simp [Builtin.append_, run_underlying ht, sizeOf, typeInfo, hi, Builtin.lenOf, Builtin.firstCells]
  · simp [Builtin.append_, run_underlying ht, sizeOf, typeInfo, hi, Builtin.lenOf, Builtin.firstCells, hnc, storeCells]
theorem run_append_row {t ty e size bytes : Nat} {z : Value} (ht : P.underlying t = some (.slice e)) (hi : (P.info? e).map (fun i => (i.size, i.bytes, i.zero)) = some (size, bytes, some z))
    (hzs : z.cells.size = size) (hsz : 0 < size) {A B : Option Addr} {n cap m cap' : Nat} {xs news : List Value} (hrow : (Res.row e size A n cap xs).holds w) (hsrc : (Res.rd B news).holds w)
    (hl : news.length = m * size) (h1 : ∀ u ∈ news, u.oneCell' = true) (hb : (n + m) * bytes ≤ 140737488355328) (hml : n + m ≤ maxLen) :
    ∃ A' c' w', (Builtin.append_ #[t, t] ty #[.slice A n cap, .slice B m cap']).run P w = .ok (.slice A' (n + m) c') w' ∧ Mem (Res.row e size A n cap xs).fp w w' [.row e size A' (n + m) c' (xs ++ news)] := by
  cases hi' : P.info? e with
  | none => simp [hi'] at hi
  | some inf =>
    simp only [hi', Option.map_some, Option.some.injEq, Prod.mk.injEq] at hi
    obtain ⟨hs, hby, hzz⟩ := hi
    by_cases hm0 : m = 0 ∧ B = none
    · obtain ⟨rfl, rfl⟩ := hm0
      have hn : news = [] := List.eq_nil_of_length_eq_zero (by simpa using hl)
      subst hn
      refine ⟨A, cap, w, run_append_of_nil' w t ty e inf size ht hi' _ n xs hrow cap', ?_⟩
      simpa using Mem.initS hrow
    · have hB : ∃ ad, B = some ad ∧ ∀ j u, news[j]? = some u → w.cell? (ad.add j) = some u := by
        cases B with
        | none =>
          have hm : m ≠ 0 := fun h => hm0 ⟨h, rfl⟩
          have hn : 0 < news.length := by rw [hl]; exact Nat.mul_pos (by omega) hsz
          obtain ⟨ad, h, _⟩ := hsrc 0 news[0] (by simp [hn])
          cases h
        | some ad =>
          refine ⟨ad, rfl, fun j u hu => ?_⟩
          obtain ⟨a', ha', hc⟩ := hsrc j u hu
          injection ha' with ha'
          subst ha'
          exact hc
      obtain ⟨ad, rfl, hcells⟩ := hB
      obtain ⟨v', w', hr, hown, hgr, _, hw⟩ := run_append_own_at (P := P) w 0 t ty e inf z size bytes ht hi' hzz hs hby hzs hsz (.slice A n cap) n xs hrow ad m cap' news hl hcells h1 hml hb (Nat.zero_le _)
      have hform : ∃ A' c', v' = .slice A' (n + m) c' := by
        rcases hown.2 with ⟨rfl, h0⟩ | ⟨g', cap1, cur, rfl, _⟩
        · exact ⟨none, 0, by rw [h0]⟩
        · exact ⟨_, _, rfl⟩
      obtain ⟨A', c', rfl⟩ := hform
      exact ⟨A', c', w', hr, Mem.grown hgr hown hw⟩
theorem From_append {t : TypeId} {x y : Operand} (hk : coreAt c k = some (d, .call { callee := .builtin .append, args := #[x, y], argTypes := #[t, t] }, ty, g)) (hF : Fr a N env) (hg : guardE c g env = some true) (hd : okd d N = true) (hk' : k + 1 = k')
    {e size bytes : Nat} {z : Value} (ht : P.underlying t = some (.slice e)) (hi : (P.info? e).map (fun i => (i.size, i.bytes, i.zero)) = some (size, bytes, some z))
    (hzs : Nat.beq z.cells.size size = true) (hsz : Nat.blt 0 size = true) {A B : Option Addr} {n cap m cap' : Nat} {xs news : List Value} (hx : ev env x = some (.slice A n cap)) (hy : ev env y = some (.slice B m cap'))
    (hM : Mem S w0 w L) (i : Nat) (hL : L[i]? = some (.row e size A n cap xs)) (hsrc : (Res.rd B news).holds w)
    (hl : news.length = m * size) (h1 : ∀ u ∈ news, u.oneCell' = true) (hb : (n + m) * bytes ≤ 140737488355328) (hml : n + m ≤ maxLen)
    (h : ∀ A' c' w', Mem S w0 w' (L.set i (.row e size A' (n + m) c' (xs ++ news))) → Mem (Res.row e size A n cap xs).fp w w' [.row e size A' (n + m) c' (xs ++ news)] → ∀ a', a' = a.put d (.slice A' (n + m) c') → Fr a' N (putE env d (.slice A' (n + m) c')) → From P c K Q k' a' w') : From P c K Q k a w := by
  subst hk'
  obtain ⟨A', c', w', hr, hm⟩ := run_append_row (P := P) (ty := ty) ht hi (Nat.eq_of_beq_eq_true hzs) (by simpa [Nat.blt_eq] using hsz) (hM.get i hL) hsrc hl h1 hb hml (cap' := cap')
  refine From_val hk hF hg (v := .slice A' (n + m) c') (w' := w') (fun o ho hty => ?_) (h A' c' w' (by simpa using hM.mod i hL hm) hm _ rfl (hF.put hd _))
  unfold execOp
  rw [ho, hty]
  simp only [resolve, invoke, builtin, Sem.run_bind, Sem.run_pure, Result.andThen_ok, List.map_toArray, List.map_cons, List.map_nil, hF.ev hx, hF.ev hy, hr]
def callOk (P : Program) (f : FuncId) : Bool := match P.funcs[f]? with
  | some fn => !(fn.name == "runtime.NumGoroutine") && fn.body.isSome
  | none => false
theorem run_callFunc {f : FuncId} (h : callOk P f = true) (args : Array Value) (w : World) : (callFunc f args).run P w = .ok (.enter f args) w := by
  unfold callOk at h
  cases hf : P.funcs[f]? with
  | none => simp [hf] at h
  | some fn =>
    simp only [hf, Bool.and_eq_true, Bool.not_eq_true'] at h
    have hb : fn.body.isNone = false := by cases hbb : fn.body <;> simp_all
    have h1 := h.1
    simp only [callFunc, Sem.run_bind, run_program, Result.andThen_ok, hf, h1, hb, Bool.false_eq_true, if_false]
    rfl
theorem From_call {x : Operand} {args : Array Operand} {ts : Array TypeId} (hk : coreAt c k = some (d, .call { callee := .value x, args := args, argTypes := ts }, ty, g)) (hF : Fr a N env) (hg : guardE c g env = some true) (hd : okd d N = true) (hk' : k + 1 = k')
    {f : FuncId} {vs cap : List Value} (hx : ev env x = some (.func (.func f) #[] cap.toArray)) (hargs : evs env args.toList = some vs) (hf : callOk P f = true) {Φ : Value → World → Prop}
    (hc : Calls P f (vs ++ cap).toArray w (Ret Φ))
    (h : ∀ v w', Φ v w' → ∀ a', a' = a.put d v → Fr a' N (putE env d v) → From P c K Q k' a' w') : From P c K Q k a w := by
  subst hk'
  refine From_op hk hF hg fun o h1 h2 h3 K' hK' => ?_
  unfold Oper.wp
  have hr : (execOp a.eval o).run P w = .ok (.enter f (vs ++ cap).toArray) w := by
    unfold execOp
    rw [h2]
    have e1 := evs_map hF hargs
    have e2 : args.map a.eval = vs.toArray := by apply Array.ext'; simpa using e1
    simp [resolve, hF.ev hx, e2, Deferred.ofValue, invoke, run_callFunc hf]
  rw [hr, Oper.upon_enter]
  refine hc.mono ?_
  rintro e w' ⟨v, rfl, hv⟩
  rw [h1]
  exact hK' _ _ (h v w' hv _ rfl (hF.put hd v))
end
def bodyOf (fn : Func) : Code := fn.body.getD .skip
def argE : Nat → List Value → Env
  | _, [] => []
  | i, v :: r => (i, v) :: argE (i + 1) r
theorem look_argE : ∀ (vs : List Value) (i t : Nat) {v : Value}, look (argE i vs) t = some v → i ≤ t ∧ vs[t - i]? = some v
  | [], i, t, v, h => by simp [argE, look] at h
  | u :: r, i, t, v, h => by
    simp only [argE, look] at h
    split at h
    · rename_i hb
      have : i = t := Nat.eq_of_beq_eq_true hb
      subst this
      exact ⟨Nat.le_refl _, by simpa using h⟩
    · obtain ⟨h1, h2⟩ := look_argE r (i + 1) t h
      refine ⟨by omega, ?_⟩
      have : t - i = (t - (i + 1)) + 1 := by omega
      rw [this]
      simpa using h2
theorem enter {P : Program} {f : FuncId} {fn : Func} {N : FN} {vs : List Value} {w : World} {R : Ending → World → Prop} (hf : P.funcs[f]? = some fn) (hb : fn.body.isSome = true) (hn : Nat.beq fn.ntmps N.n = true)
    (hl : Nat.ble vs.length N.n = true)
    (h : ∀ a, Fr a N (argE 0 vs) → W P (bodyOf fn) (bodyPost P fn R .normal) (bodyPost P fn R) a w) (hD : N.D = [] := by rfl) : Calls P f vs.toArray w R := by
  have hN : fn.ntmps = N.n := Nat.eq_of_beq_eq_true hn
  have hl' : vs.length ≤ N.n := Nat.le_of_ble_eq_true hl
  cases hbb : fn.body with
  | none => rw [hbb] at hb; cases hb
  | some c =>
    refine calls_of_wp hf hbb ?_
    have := h { tmps := vs.toArray ++ Array.replicate (fn.ntmps - vs.toArray.size) undef, defers := [] } ⟨hD.symm, by simp [hN]; omega, ?_⟩
    · unfold W at this
      rw [show bodyOf fn = c by simp [bodyOf, hbb]] at this
      refine wp_mono this ?_
      intro e a w he
      cases e <;> exact he
    · intro t v hv
      obtain ⟨_, h2⟩ := look_argE vs 0 t hv
      simp only [Nat.sub_zero] at h2
      have ht : t < vs.length := (List.getElem?_eq_some_iff.1 h2).1
      rw [Array.getElem?_append_left (by simpa using ht)]
      simpa using h2
theorem out1 {P : Program} {fn : Func} {R : Ending → World → Prop} {a : Act} {w : World} {N : FN} {env : Env} {t : Nat} {v : Value} (hF : Fr a N env) (hr : fn.results = #[.tmp t]) (hv : look env t = some v) (h : R (.returned v) w) (hD : N.D = [] := by rfl) :
    bodyPost P fn R .ret a w := by
  refine bodyPost_ret (v := v) ?_ (hF.defers.trans hD) h
  rw [results_tmp hr]
  have := hF.ev (x := .tmp t) hv
  simp only [Act.eval] at this
  rw [this]
theorem out2 {P : Program} {fn : Func} {R : Ending → World → Prop} {a : Act} {w : World} {N : FN} {env : Env} {t u : Nat} {v v' : Value} (hF : Fr a N env) (hr : fn.results = #[.tmp t, .tmp u]) (hv : look env t = some v) (hu : look env u = some v')
    (h : R (.returned (.tuple #[v, v'])) w) (hD : N.D = [] := by rfl) : bodyPost P fn R .ret a w := by
  refine bodyPost_ret (v := .tuple #[v, v']) ?_ (hF.defers.trans hD) h
  rw [results_tmp2 hr]
  have h1 := hF.ev (x := .tmp t) hv
  have h2 := hF.ev (x := .tmp u) hu
  simp only [Act.eval] at h1 h2
  rw [h1, h2]
theorem out0 {P : Program} {fn : Func} {R : Ending → World → Prop} {a : Act} {w : World} {N : FN} {env : Env} (hF : Fr a N env) (hr : fn.results = #[]) (h : R (.returned (.tuple #[])) w) (hD : N.D = [] := by rfl) :
    bodyPost P fn R .normal a w := bodyPost_end (results_none hr _ _ _) (hF.defers.trans hD) h
end Go.Mor
namespace Go.Mor
open Go.RowKit
theorem inB_hit {id id' : Nat} {K : Act → World → Prop} {Q : Exit → Act → World → Prop} {a : Act} {w : World} (e : Nat.beq id' id = true) (h : K a w) : inB id K Q (.exit id') a w := by
  simp only [inB, e]; exact h
theorem W_cut {P : Program} {c : Code} {K : Act → World → Prop} {Q : Exit → Act → World → Prop} {a : Act} {w : World} (I : Act → World → Prop) (h : ∀ a w, I a w → K a w) (h' : W P c I Q a w) : W P c K Q a w :=
  W_mono h' h (fun _ _ _ h => h)
theorem add_blk (g j : Nat) : (⟨g, 0, none⟩ : Addr).add j = ⟨g, j, none⟩ := by unfold Addr.add; split <;> simp_all
theorem blk_cells {w : World} {g t : Nat} {cs : List Value} (h : (Res.blk g t cs).holds w) (j : Nat) (v : Value) (hj : cs[j]? = some v) : w.cell? ((⟨g, 0, none⟩ : Addr).add j) = some v := by
  rw [add_blk]; exact blk_cell h hj
theorem Mem.nilrow (w : World) (e size : Nat) : Mem noS w w [.row e size none 0 0 []] := by
  refine ⟨rfl, rfl, rfl, Nat.le_refl _, fun _ _ _ => rfl, ?_, List.pairwise_singleton _ _⟩
  simp only [List.mem_singleton]
  rintro _ rfl
  exact ⟨row_nil w e size, fun g hg => by obtain ⟨a, ha, _⟩ := hg; cases ha⟩
theorem rd_get {w : World} {A : Option Addr} {ad : Addr} {xs : List Value} (h : (Res.rd A xs).holds w) (hA : A = some ad) {j : Nat} {v : Value} (hj : xs[j]? = some v) : w.cell? (ad.add j) = some v := by
  obtain ⟨a', ha, hc⟩ := h j v hj
  rw [hA] at ha
  injection ha with ha
  subst ha
  exact hc
theorem rd_get1 {w : World} {A : Option Addr} {ad : Addr} {xs : List Value} (h : (Res.rd A xs).holds w) (hA : A = some ad) {j : Nat} {v : Value} (hj : xs[j]? = some v) : w.cell? (ad.add (j * 1)) = some v := by
  rw [Nat.mul_one]; exact rd_get h hA hj
theorem rd_some {w : World} {A : Option Addr} {xs : List Value} (h : (Res.rd A xs).holds w) (hn : 0 < xs.length) : ∃ ad, A = some ad := by
  obtain ⟨a', ha, _⟩ := h 0 xs[0] (by simp [hn])
  exact ⟨a', ha⟩
theorem row_some' {w : World} {e size n c : Nat} {A : Option Addr} {xs : List Value} (h : (Res.row e size A n c xs).holds w) (hn : 0 < n) : ∃ ad, A = some ad := by
  obtain ⟨g, hg⟩ := row_some h hn
  exact ⟨_, hg⟩
def ints (l : List Int) : List Value := l.map (Value.int .i64)
theorem ints_get {l : List Int} {i : Nat} (h : i < l.length) : (ints l)[i]? = some (.int .i64 (l.getD i 0)) := by
  simp [ints, List.getD, h]
theorem ints_len (l : List Int) : (ints l).length = l.length := by simp [ints]
theorem ints_append (l m : List Int) : ints (l ++ m) = ints l ++ ints m := by simp [ints]
theorem ints_one (l : List Int) : ∀ u ∈ ints l, u.oneCell' = true := by
  intro u hu
  simp only [ints, List.mem_map] at hu
  obtain ⟨x, _, rfl⟩ := hu
  rfl
theorem rd_int {w : World} {A : Option Addr} {ad : Addr} {l : List Int} (h : (Res.rd A (ints l)).holds w) (hA : A = some ad) {i : Int} (h0 : 0 ≤ i) (h1 : i < l.length) :
    w.cell? (ad.add (i.toNat * 1)) = some (.int .i64 (l.getD i.toNat 0)) := rd_get1 h hA (ints_get (by omega))
theorem rd_at {w : World} {A : Option Addr} {ad : Addr} {l : List Int} (h : (Res.rd A (ints l)).holds w) (hA : A = some ad) {i : Nat} {v : Int} (hi : l[i]? = some v) :
    w.cell? (ad.add ((i : Int).toNat * 1)) = some (.int .i64 v) := by
  rw [Int.toNat_natCast]
  exact rd_get1 h hA (by simp [ints, hi])
theorem rd_ints_some {w : World} {A : Option Addr} {l : List Int} (h : (Res.rd A (ints l)).holds w) (hn : 0 < l.length) : ∃ ad, A = some ad := rd_some h (by rw [ints_len]; exact hn)
end Go.Mor

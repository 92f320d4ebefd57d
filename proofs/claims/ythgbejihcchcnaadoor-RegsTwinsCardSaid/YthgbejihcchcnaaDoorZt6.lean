/-
  Texts of the proof, part 6.
-/
import Derived.Test.YthgbejihcchcnaaDoorZt5
import Derived.Test.YthgbejihcchcnaaDoorChecked
set_option maxRecDepth 10000
namespace Go.Proofs.YthgbejihcchcnaaDoor
open Go.Mor Go.ChangeShapes Go.WideShapes Go.ChangeAt Go.RowKit Go.Deep
theorem Tryd.own : ownKnob Tryd.prog.godebug = none := by kernel_rfl
theorem Tryd.laidOut : laidOutB Tryd.prog = true := by kernel_rfl
theorem array5 {α : Type} {cs : Array α} (h : cs.size = 5) : ∃ c0 c1 c2 c3 c4, cs = #[c0, c1, c2, c3, c4] := by
  obtain ⟨l⟩ := cs
  match l, h with
  | [c0, c1, c2, c3, c4], _ => exact ⟨c0, c1, c2, c3, c4, rfl⟩
theorem list2 {α : Type} {cs : List α} (h : cs.length = 2) : ∃ c0 c1, cs = [c0, c1] := by
  match cs, h with
  | [c0, c1], _ => exact ⟨c0, c1, rfl⟩
theorem list5 {α : Type} {cs : List α} (h : cs.length = 5) : ∃ c0 c1 c2 c3 c4, cs = [c0, c1, c2, c3, c4] := by
  match cs, h with
  | [c0, c1, c2, c3, c4], _ => exact ⟨c0, c1, c2, c3, c4, rfl⟩
theorem list6 {α : Type} {cs : List α} (h : cs.length = 6) : ∃ c0 c1 c2 c3 c4 c5, cs = [c0, c1, c2, c3, c4, c5] := by
  match cs, h with
  | [c0, c1, c2, c3, c4, c5], _ => exact ⟨c0, c1, c2, c3, c4, c5, rfl⟩
def Reach_ {H : Type} (t : TypeId) (d : DataW H) : Prop := ∀ n, n ∈ d.weights Tryd.prog t → n ≤ reachBytes
theorem len_ok {a k : Nat} (hk : 0 < k) (h : a * k ≤ reachBytes) : LenOk a := by
  have h1 : a * 1 ≤ a * k := Nat.mul_le_mul_left a hk
  have h2 := reachBytes_lt
  unfold LenOk
  omega
theorem weights_all {H : Type} {e : TypeId} {l : List (DataW H)} {d : DataW H} (h : d ∈ l) : ∀ n, n ∈ d.weights Tryd.prog e → n ∈ DataW.weightsAll Tryd.prog e l := by
  induction l with
  | nil => cases h
  | cons x l ih =>
    intro n hn
    unfold DataW.weightsAll
    rcases List.mem_cons.1 h with rfl | h
    · exact List.mem_append_left _ hn
    · exact List.mem_append_right _ (ih h n hn)
section
variable {H : Type} {enc : TypeId × Value → H} {w : World} {base : Nat} {spare : Nat → Bool} {held : Bool}
theorem i64_of {t : TypeId} (ht : Tryd.prog.underlying t = some (.int .i64)) {fuel : Nat} {v : Value} {x : DataW H × List MemPlace} (h : DataW.trod enc Tryd.prog w base spare held fuel t [v] = some x) : ∃ n, v = .int .i64 n ∧ In64 n := by
  obtain ⟨n, rfl, h1, h2⟩ := int_of ht h
  exact ⟨n, rfl, h1, h2⟩
theorem str_of {t : TypeId} (ht : Tryd.prog.underlying t = some .string) {fuel : Nat} {v : Value} {x : DataW H × List MemPlace} (h : DataW.trod enc Tryd.prog w base spare held fuel t [v] = some x) (hz : Reach_ t x.1) : ∃ s, v = .string s ∧ LenOk s.size := by
  obtain ⟨s, h1, h3, _⟩ := DataW.trod_string ht h
  simp at h1
  subst h3
  refine ⟨s, h1, len_ok (k := 1) Nat.one_pos ?_⟩
  have := hz s.data.toList.length (by simp [DataW.weights])
  rw [Nat.mul_one]
  simpa using this
theorem fields_of2 {t : TypeId} {fs : Array Field} (hs : Tryd.prog.underlying t = some (.struct fs)) (hone : oneCellFields Tryd.prog fs = true) (hC : Tryd.prog.cellsOf t = fs.size) {fuel : Nat} {cs : List Value} {x : DataW H × List MemPlace}
    (h : DataW.trod enc Tryd.prog w base spare held fuel t cs = some x) (hz : Reach_ t x.1) :
    cs.length = fs.size ∧ ∃ n : Nat, ∀ (i : Nat) (f : Field), fs[i]? = some f → ∃ (v : Value) (y : DataW H × List MemPlace), cs[i]? = some v ∧ DataW.trod enc Tryd.prog w base spare held n f.type [v] = some y ∧ Reach_ f.type y.1 := by
  obtain ⟨xs, n, _, hxe, hlen, hxs, hf⟩ := DataW.trod_struct hs h
  rw [hC] at hlen
  refine ⟨hlen, n, fun i f hi => ?_⟩
  have hlt : i < fs.size := (Array.getElem?_eq_some_iff.1 hi).1
  obtain ⟨ho, hc1⟩ := hone_of hone i f hi
  have h1 := hf i f hi
  rw [ho, hc1, take1_drop cs i undef (by omega)] at h1
  rw [List.getElem?_eq_getElem (by omega : i < xs.length)] at h1
  refine ⟨cs[i]'(by omega), xs[i]'(by omega), List.getElem?_eq_getElem (by omega), ?_, fun m hm => hz m ?_⟩
  · rw [← h1]
    simp [List.getD, List.getElem?_eq_getElem (by omega : i < cs.length)]
  · subst hxe
    simp only [DataW.weights, hs]
    exact DataW.weights_mem_each (j := i) (by rw [List.getElem?_map]; simp [hi]) (by rw [List.getElem?_map, List.getElem?_eq_getElem (by omega)]; rfl) m hm
theorem open_elems {t e : TypeId} {k : Nat} (ht : Tryd.prog.underlying t = some (.slice e)) (hb : Tryd.prog.bytesOf e = k) (hk : 0 < k)
    {fuel : Nat} {v : Value} {x : DataW H × List MemPlace} (h : DataW.trod enc Tryd.prog w base spare held fuel t [v] = some x) (hz : Reach_ t x.1) :
    ∃ A len cap, v = .slice A len cap ∧ LenOk len ∧ ∀ i, i < len → ∃ (ad : Addr) (cs : List Value) (n : Nat) (y : DataW H × List MemPlace), A = some ad ∧ cs.length = Tryd.prog.cellsOf e ∧
      (∀ (j : Nat) (v : Value), cs[j]? = some v → w.cell? ((ad.add (i * Tryd.prog.cellsOf e)).add j) = some v) ∧ DataW.trod enc Tryd.prog w base spare held n e cs = some y ∧ Reach_ e y.1 := by
  rcases DataW.trod_slice ht h with ⟨hcs, _⟩ | ⟨a, len, cap, elems, rest, n, _, hcs, hxe, _, _, _, hel, hx, _⟩
  · simp at hcs
    subst hcs
    exact ⟨none, 0, 0, rfl, by simp [LenOk], fun i hi => absurd hi (Nat.not_lt_zero _)⟩
  · simp at hcs
    subst hcs
    subst hxe
    have hw : ∀ m, m ∈ (elems.map (·.1)).length * 0 :: DataW.weightsAll Tryd.prog e (elems.map (·.1)) → m ≤ reachBytes := by
      intro m hm
      rcases List.mem_cons.1 hm with rfl | hm
      · omega
      · refine hz m ?_
        simp only [DataW.weights, ht]
        exact List.mem_cons_of_mem _ (List.mem_append_left _ hm)
    refine ⟨some a, len, cap, rfl, ?_, fun i hi => ?_⟩
    · have h1 := hz (((elems.map (·.1)).length + (rest.map (·.1)).length) * Tryd.prog.bytesOf e) (by simp only [DataW.weights, ht]; exact List.mem_cons_self)
      rw [hb, List.length_map, List.length_map, hel] at h1
      exact len_ok hk (Nat.le_trans (Nat.mul_le_mul_right k (Nat.le_add_right _ _)) h1)
    · have h1 := hx i hi
      rw [List.getElem?_eq_getElem (by omega : i < elems.length)] at h1
      cases hc : w.cells? base (a.add (i * Tryd.prog.cellsOf e)) (Tryd.prog.cellsOf e) with
      | none => rw [hc] at h1; cases h1
      | some cs =>
        rw [hc] at h1
        obtain ⟨_, hlen, hcell⟩ := World.cells?_some hc
        refine ⟨a, cs, n, elems[i]'(by omega), rfl, hlen, fun j v hj => ?_, h1, fun m hm => hw m (List.mem_cons_of_mem _ (weights_all (d := (elems[i]'(by omega)).1) ?_ m hm))⟩
        · rw [hcell j (by have := (List.getElem?_eq_some_iff.1 hj).1; omega)]
          exact hj
        · exact List.mem_map.2 ⟨elems[i]'(by omega), List.getElem_mem _, rfl⟩
theorem open_structs2 {t e : TypeId} {k : Nat} {fs : Array Field} (ht : Tryd.prog.underlying t = some (.slice e)) (hs : Tryd.prog.underlying e = some (.struct fs)) (hone : oneCellFields Tryd.prog fs = true) (hC : Tryd.prog.cellsOf e = fs.size) (hb : Tryd.prog.bytesOf e = k) (hk : 0 < k)
    {fuel : Nat} {v : Value} {x : DataW H × List MemPlace} (h : DataW.trod enc Tryd.prog w base spare held fuel t [v] = some x) (hz : Reach_ t x.1) :
    ∃ A len cap, v = .slice A len cap ∧ LenOk len ∧ ∀ i, i < len → ∃ (ad : Addr) (cs : List Value), A = some ad ∧ cs.length = fs.size ∧
      (∀ (j : Nat) (v : Value), cs[j]? = some v → w.cell? ((ad.add (i * fs.size)).add j) = some v) ∧ ∃ n : Nat, ∀ (j : Nat) (f : Field), fs[j]? = some f → ∃ (v : Value) (y : DataW H × List MemPlace), cs[j]? = some v ∧ DataW.trod enc Tryd.prog w base spare held n f.type [v] = some y ∧ Reach_ f.type y.1 := by
  obtain ⟨A, len, cap, rfl, hl, hx⟩ := open_elems ht hb hk h hz
  refine ⟨A, len, cap, rfl, hl, fun i hi => ?_⟩
  obtain ⟨ad, cs, n, y, hA, hlen, hc, htr, hy⟩ := hx i hi
  rw [hC] at hlen hc
  exact ⟨ad, cs, hA, hlen, hc, (fields_of2 hs hone hC htr hy).2⟩
theorem open_nums {fuel : Nat} {v : Value} {x : DataW H × List MemPlace} (h : DataW.trod enc Tryd.prog w base spare held fuel 25 [v] = some x) (hz : Reach_ 25 x.1) :
    ∃ A l c, v = .slice A (List.length l) c ∧ LenOk l.length ∧ (∀ x, x ∈ l → In64 x) ∧ (Res.rd A (ints l)).holds w := by
  obtain ⟨A, len, cap, rfl, hl, hx⟩ := open_elems (k := 8) Tryd.underlying25 (by kernel_rfl) (by omega) h hz
  have c3 : Tryd.prog.cellsOf 3 = 1 := by kernel_rfl
  have : ∀ i, i < len → ∃ k : Int, In64 k ∧ ∃ ad, A = some ad ∧ w.cell? (ad.add i) = some (.int .i64 k) := by
    intro i hi
    obtain ⟨ad, cs, n, y, hA, hlen, hc, htr, _⟩ := hx i hi
    rw [c3] at hlen hc
    match cs, hlen with
    | [c0], _ =>
      obtain ⟨k, rfl, hk⟩ := i64_of Tryd.underlying3 htr
      refine ⟨k, hk, ad, hA, ?_⟩
      have h0 := hc 0 _ rfl
      rw [Nat.mul_one] at h0
      simpa [Addr.add] using h0
  obtain ⟨l, rfl, hp⟩ := list_of this
  refine ⟨A, l, cap, rfl, hl, fun k hk => ?_, fun i v hi => ?_⟩
  · obtain ⟨i, hi⟩ := List.mem_iff_getElem?.1 hk
    exact (hp i k hi).1
  · simp only [ints, List.getElem?_map, Option.map_eq_some_iff] at hi
    obtain ⟨k, hk, rfl⟩ := hi
    exact (hp i k hk).2
theorem open_phis {fuel : Nat} {v : Value} {x : DataW H × List MemPlace} (h : DataW.trod enc Tryd.prog w base spare held fuel 50 [v] = some x) (hz : Reach_ 50 x.1) :
    ∃ A l c, v = .slice A (List.length l) c ∧ LenOk l.length ∧ (∀ p : FPhi, p ∈ l → p.Ok ∧ (Res.rd p.A (ints p.args)).holds w) ∧ (Res.rds A 2 (l.map FPhi.cells)).holds w := by
  obtain ⟨A, len, cap, rfl, hl, hx⟩ := open_structs2 (k := 32) Tryd.underlying50 Tryd.underlying86 (by kernel_rfl) (by kernel_rfl) (by kernel_rfl) (by omega) h hz
  have : ∀ i, i < len → ∃ b : FPhi, (b.Ok ∧ (Res.rd b.A (ints b.args)).holds w) ∧ ∃ ad : Addr, A = some ad ∧ ∀ (j : Nat) (v : Value), b.cells[j]? = some v → w.cell? ((ad.add (i * 2)).add j) = some v := by
    intro i hi
    obtain ⟨ad, cs, hA, hln, hc, n, hf⟩ := hx i hi
    obtain ⟨c0, c1, rfl⟩ := list2 hln
    obtain ⟨_, _, e, g0, zg0⟩ := hf 0 _ rfl
    cases e
    obtain ⟨d, rfl, hd⟩ := i64_of Tryd.underlying3 g0
    obtain ⟨_, _, e, g1, zg1⟩ := hf 1 _ rfl
    cases e
    obtain ⟨Aa, gs, ca, rfl, h1, h2, h3⟩ := open_nums g1 zg1
    exact ⟨⟨d, Aa, ca, gs⟩, ⟨⟨hd, h1, h2⟩, h3⟩, ad, hA, hc⟩
  obtain ⟨l, rfl, hp⟩ := list_of this
  refine ⟨A, l, cap, rfl, hl, fun p hpm => ?_, fun i cs hi => ?_⟩
  · obtain ⟨i, hi⟩ := List.mem_iff_getElem?.1 hpm
    exact (hp i p hi).1
  · rw [List.getElem?_map] at hi
    obtain ⟨b, hb, rfl⟩ := Option.map_eq_some_iff.1 hi
    exact (hp i b hb).2
end
end Go.Proofs.YthgbejihcchcnaaDoor
namespace Go.Mor
open Go.RowKit
theorem toList_madeCells (zs : List Value) (n : Nat) (hz : 0 < zs.length) : (madeCells zs.toArray (n * zs.length)).toList = (List.replicate n zs).flatten := by
  have hlen : ((List.replicate n zs).flatten).length = n * zs.length := by simp
  apply List.ext_getElem?
  intro j
  by_cases hj : j < n * zs.length
  · have h1 : j % zs.length < zs.length := Nat.mod_lt _ hz
    have e1 : (madeCells zs.toArray (n * zs.length)).toList[j]? = some zs[j % zs.length] := by
      simp [madeCells, hj, h1]
    rw [e1]
    clear e1
    have h2 : j / zs.length < n := Nat.div_lt_of_lt_mul (by rwa [Nat.mul_comm] at hj)
    have key : ∀ n q, q < n → ∀ r (hr : r < zs.length), ((List.replicate n zs).flatten)[q * zs.length + r]? = some zs[r] := by
      intro n
      induction n with
      | zero => intro q hq; omega
      | succ n ih =>
        intro q hq r hr
        rw [List.replicate_succ, List.flatten_cons]
        cases q with
        | zero =>
          rw [Nat.zero_mul, Nat.zero_add, List.getElem?_append_left hr]
          simp [hr]
        | succ q =>
          rw [List.getElem?_append_right (by rw [Nat.succ_mul]; omega), show (q + 1) * zs.length + r - zs.length = q * zs.length + r by rw [Nat.succ_mul]; omega]
          exact ih q (by omega) r hr
    have := key n (j / zs.length) h2 (j % zs.length) h1
    rw [Nat.div_add_mod' j zs.length] at this
    exact this.symm
  · have e1 : ((List.replicate n zs).flatten)[j]? = none := List.getElem?_eq_none (by rw [hlen]; omega)
    rw [e1]
    apply List.getElem?_eq_none
    simp [madeCells]
    omega
section
variable {P : Program} {c : Code} {K : Act → World → Prop} {Q : Exit → Act → World → Prop} {a : Act} {w w0 : World} {S : Nat → Prop} {L : List Res} {k k' : Nat} {N : FN} {env : Env}
variable {d : Option Nat} {ty : Nat} {g : Option (Nat × Bool)}
theorem From_makeS {t : TypeId} {x y : Operand} (hk : coreAt c k = some (d, .makeSlice t x y, ty, g)) (hF : Fr a N env) (hg : guardE c g env = some true) (hd : okd d N = true) (hk' : k + 1 = k')
    {e bytes size : Nat} {zs : List Value} {n : Nat} {i : Int} (hx : ev env x = some (.int .i64 i)) (hy : ev env y = some (.int .i64 i)) (hn : i = (n : Int)) (ht : P.underlying t = some (.slice e))
    (hi : (P.info? e).map (fun i => (i.size, i.bytes, i.zero)) = some (size, bytes, some (.agg zs.toArray))) (hs : size = zs.length) (hz : 0 < zs.length) (hb : bytes * n ≤ 140737488355328) (hl : n ≤ maxLen) (hM : Mem S w0 w L)
    (h : ∀ b w', w0.heap.size ≤ b → w.heap.size ≤ b → Mem S w0 w' (L ++ [.row e size (some ⟨b, 0, none⟩) n n (List.replicate n zs).flatten]) → Mem noS w w' [.row e size (some ⟨b, 0, none⟩) n n (List.replicate n zs).flatten] →
      ∀ a', a' = a.put d (.slice (some ⟨b, 0, none⟩) n n) → Fr a' N (putE env d (.slice (some ⟨b, 0, none⟩) n n)) → From P c K Q k' a' w') : From P c K Q k a w := by
  subst hk'
  subst hn
  cases hi' : P.info? e with
  | none => simp [hi'] at hi
  | some inf =>
    simp only [hi', Option.map_some, Option.some.injEq, Prod.mk.injEq] at hi
    obtain ⟨hs', hby, hzz⟩ := hi
    subst hby
    obtain ⟨w', hr, hown, hgr⟩ := run_make_full (P := P) w 0 t e inf (.agg zs.toArray) size ht hi' hzz hs' .i64 .i64 n (by omega) hl (Nat.zero_le _)
    have hc : (madeCells (Value.agg zs.toArray).cells (n * size)).toList = (List.replicate n zs).flatten := by
      rw [hs]
      exact toList_madeCells zs n hz
    rw [hc] at hown
    have hm : Mem noS w w' [.row e size (some ⟨w.heap.size, 0, none⟩) n n (List.replicate n zs).flatten] := by
      refine ⟨hgr.os, hgr.tape, hgr.output, hgr.size, fun k hk _ => hgr.block k hk (by simp), ?_, List.pairwise_singleton _ _⟩
      simp only [List.mem_singleton]
      rintro _ rfl
      refine ⟨hown, ?_⟩
      rintro g' ⟨a', ha', rfl⟩
      injection ha' with ha'
      subst ha'
      exact .inr (Nat.le_refl _)
    refine From_val hk hF hg (v := .slice (some ⟨w.heap.size, 0, none⟩) n n) (w' := w') (fun o ho _ => ?_) (h w.heap.size w' hM.size (Nat.le_refl _) (hM.call hm) hm _ rfl (hF.put hd _))
    unfold execOp
    rw [ho]
    simp only [hF.ev hx, hF.ev hy, Sem.run_bind, hr, Result.andThen_ok]
    rfl
theorem addr_add (a : Addr) (i j : Nat) : (a.add i).add j = a.add (i + j) := by
  unfold Addr.add
  by_cases hi : i = 0 <;> by_cases hj : j = 0 <;> simp [hi, hj, Nat.add_assoc]
def setAt : List Value → Nat → List Value → List Value
  | xs, _, [] => xs
  | xs, j, v :: vs => setAt (xs.set j v) (j + 1) vs
theorem storeCells_rowS {e size n cap : Nat} {ad ad' : Addr} : ∀ (vs : List Value) (i j : Nat) {xs : List Value} {w : World}, (∀ v ∈ vs, v.oneCell' = true) → (Res.row e size (some ad) n cap xs).holds w → ad'.add i = ad.add j → ad'.add 0 = ad' → (∀ q, ad'.add (i + q) = ad.add (j + q)) → j + vs.length ≤ n * size →
    ∃ w', (storeCells ad' vs i).run P w = .ok () w' ∧ Mem (Res.row e size (some ad) n cap xs).fp w w' [.row e size (some ad) n cap (setAt xs j vs)]
  | [], i, j, xs, w, _, hb, _, _, _, _ => ⟨w, by simp [storeCells], by simpa [setAt] using Mem.initS hb⟩
  | v :: vs, i, j, xs, w, h1, hb, he, h0, hq, hl => by
    simp only [List.length_cons] at hl
    have hm := Mem.set_row (j := j) hb v
    have hb' := hm.get 0 rfl
    obtain ⟨w', hr, hm'⟩ := storeCells_rowS vs (i + 1) (j + 1) (fun u hu => h1 u (List.mem_cons_of_mem _ hu)) hb' (hq 1) h0 (fun q => by have := hq (1 + q); rwa [← Nat.add_assoc, ← Nat.add_assoc] at this) (by omega)
    refine ⟨w', ?_, ?_⟩
    · have hxl : xs.length = n * size := hb.1
      obtain ⟨u, hu⟩ : ∃ u, xs[j]? = some u := ⟨_, List.getElem?_eq_getElem (by omega)⟩
      obtain ⟨a0, ha0, hcell⟩ := row_rd hb j u hu
      injection ha0 with ha0
      subst ha0
      have hst : (store (ad.add j) v).run P w = .ok () (w.setCell (ad.add j) v) := by rw [run_store P w _ v .plain (h1 v (List.mem_cons_self ..)), hcell]; simp [row_frozen hb]
      simp only [storeCells, Sem.run_bind, he, hst, Result.andThen_ok, hr]
    · have := hm.mod 0 rfl hm'
      simpa [setAt] using this
theorem From_storeS_row {t : TypeId} {x y : Operand} (hk : coreAt c k = some (d, .store t x y, ty, g)) (hF : Fr a N env) (hg : guardE c g env = some true) (hd : okd d N = true) (hk' : k + 1 = k')
    {ad ad' : Addr} {j e size n cap : Nat} {vs xs : List Value} (hx : ev env x = some (.pointer (some ad'))) (had : ad' = ad.add j) (hy : ev env y = some (.agg vs.toArray)) (ht : aggT P t = some vs.length) (hv : ∀ v ∈ vs, v.oneCell' = true) (hM : Mem S w0 w L)
    (i : Nat) (hi : L[i]? = some (.row e size (some ad) n cap xs)) (hj : j + vs.length ≤ n * size)
    (h : ∀ w', Mem S w0 w' (L.set i (.row e size (some ad) n cap (setAt xs j vs))) → Mem (Res.row e size (some ad) n cap xs).fp w w' [.row e size (some ad) n cap (setAt xs j vs)] → ∀ a', a' = a.put d undef → Fr a' N (putE env d undef) → From P c K Q k' a' w') : From P c K Q k a w := by
  subst hk'
  subst had
  have hb := hM.get i hi
  obtain ⟨w', hr, hm⟩ := storeCells_rowS (P := P) (ad' := ad.add j) vs 0 j hv hb (by rw [addr_add]; rfl) (by rw [addr_add]; rfl) (fun q => by rw [addr_add, Nat.zero_add]) hj
  refine From_unit hk hF hg (w' := w') (fun o ho' => ?_) (h _ (by simpa using hM.mod i hi hm) hm _ rfl (hF.put hd _))
  unfold execOp
  rw [ho']
  simp [Instr.storeAt, Instr.sureAddr, hF.ev hx, hF.ev hy, storeVar, (isAgg_agg ht w).2, Value.cells, hr]
end
end Go.Mor
namespace Go.Mor
open Go.RowKit
theorem From_ixA {P : Program} {c : Code} {K : Act → World → Prop} {Q : Exit → Act → World → Prop} {a : Act} {w : World} {k : Nat} {N : FN} {env : Env} (d : Option Nat) (A : Option Addr) (ad : Addr) (n size : Nat) (i : Int) (hF : Fr a N env) (hk : ixE P c N env k = some (d, A, n, size, i)) (hA : A = some ad) (h0 : 0 ≤ i) (h1 : i < n)
    (h : ∀ a', Fr a' N (putE env d (.pointer (some (ad.add (i.toNat * size))))) → From P c K Q (k + 1) a' w) : From P c K Q k a w :=
  From_ix d ad n size i hF (by rw [hk, hA]) h0 h1 h
end Go.Mor
namespace Go.Mor
open Go.RowKit
def groupL : List (Bool × Res) → List Res
  | [] => []
  | (b, r) :: l => cond b [r] [] ++ groupL l
theorem groupL_set : ∀ (l : List (Bool × Res)) (i : Nat) {r r' : Res}, l[i]? = some (false, r') → (groupL l ++ [r]).Perm (groupL (l.set i (true, r)))
  | [], i, r, r', h => by simp at h
  | (b, q) :: l, 0, r, r', h => by
    simp at h
    obtain ⟨rfl, rfl⟩ := h
    show ((cond false [q] [] ++ groupL l) ++ [r]).Perm (cond true [r] [] ++ groupL l)
    simp only [cond_false, List.nil_append, cond_true]
    exact List.perm_append_comm
  | (b, q) :: l, i + 1, r, r', h => by
    have := groupL_set l i (r := r) (r' := r') (by simpa using h)
    show ((cond b [q] [] ++ groupL l) ++ [r]).Perm (cond b [q] [] ++ groupL (l.set i (true, r)))
    rw [List.append_assoc]
    exact this.append_left _
theorem Mem.group {S : Nat → Prop} {w0 w : World} {L : List Res} {l : List (Bool × Res)} {r r' : Res} (h : Mem S w0 w ((L ++ groupL l) ++ [r])) (i : Nat) (hi : l[i]? = some (false, r')) : Mem S w0 w (L ++ groupL (l.set i (true, r))) := by
  refine h.perm ?_
  rw [List.append_assoc]
  exact (groupL_set l i hi).append_left _
end Go.Mor
namespace Go.Mor
open Go.RowKit
section
variable {P : Program} {c : Code} {K : Act → World → Prop} {Q : Exit → Act → World → Prop} {a : Act} {w w0 : World} {S : Nat → Prop} {L : List Res} {k k' : Nat} {N : FN} {env : Env}
variable {d : Option Nat} {ty : Nat} {g : Option (Nat × Bool)}
theorem From_build0 {t : TypeId} (hk : coreAt c k = some (d, .buildSlice t 0 #[], ty, g)) (hF : Fr a N env) (hg : guardE c g env = some true) (hd : okd d N = true) (hk' : k + 1 = k')
    {e size : Nat} (ht : P.underlying t = some (.slice e)) (hi : (P.info? e).map (fun i => i.size) = some size) (hM : Mem S w0 w L)
    (h : ∀ b w', w0.heap.size ≤ b → w.heap.size ≤ b → Mem S w0 w' (L ++ [.row e size (some ⟨b, 0, none⟩) 0 0 []]) → Mem noS w w' [.row e size (some ⟨b, 0, none⟩) 0 0 []] →
      ∀ a', a' = a.put d (.slice (some ⟨b, 0, none⟩) 0 0) → Fr a' N (putE env d (.slice (some ⟨b, 0, none⟩) 0 0)) → From P c K Q k' a' w') : From P c K Q k a w := by
  subst hk'
  have hrow : (Res.row e size (some ⟨w.heap.size, 0, none⟩) 0 0 []).holds (w.alloc (.cells #[] e)) := by
    have := World.ownsRow_lit (base := 0) (e := e) (size := size) w #[] 0 (Nat.zero_le _) (by simp only [maxLen]; omega) (by simp)
    show World.ownsRow _ _ _ _ _ _ _
    simpa using this
  have hm : Mem noS w (w.alloc (.cells #[] e)) [.row e size (some ⟨w.heap.size, 0, none⟩) 0 0 []] := by
    refine (Mem.alloc w e []).say 0 rfl (fun _ => hrow) ?_
    rintro g' ⟨a', ha', rfl⟩
    injection ha' with ha'
    subst ha'
    rfl
  refine From_val hk hF hg (v := .slice (some ⟨w.heap.size, 0, none⟩) 0 0) (w' := w.alloc (.cells #[] e)) (fun o ho _ => ?_)
    (h w.heap.size (w.alloc (.cells #[] e)) hM.size (Nat.le_refl _) (hM.call hm) hm _ rfl (hF.put hd _))
  unfold execOp
  rw [ho]
  cases hi' : P.info? e with
  | none => simp [hi'] at hi
  | some inf =>
    have hs0 : (sizeOf e).run P w = .ok inf.size w := by simp [sizeOf, typeInfo, hi']
    simp only [List.map_toArray, List.map_nil, Instr.buildSlice, Sem.run_bind, run_underlying ht, hs0, Result.andThen_ok, Nat.zero_mul, Nat.reducePow, gt_iff_lt, Nat.not_lt_zero, if_false, if_true, Sem.run_pure, show Array.range 0 = #[] from rfl, Array.toList_empty, Instr.fill, newRow, run_newObj]
    rfl
end
end Go.Mor
namespace Go.Mor
open Go.RowKit
def purE (P : Program) (c : Code) (N : FN) (n k : Nat) (env : Env) : Env := match pureRun P c N n k env with
  | some e => e
  | none => []
def isS {α : Type} : Option α → Bool
  | some _ => true
  | none => false
def keysE : Env → List Nat
  | [] => []
  | (k, _) :: r => k :: keysE r
def condE (c : Code) (env : Env) : Option Value := match kind c with
  | .cond (.tmp t) => look env t
  | _ => none
def szE (c : Code) : Nat := (opsOf c).size
def srE (c : Code) : Bool := match kind c, kind (Code.l c) with | .seq, .region false => true | _, _ => false
def cmE (c : Code) (N : FN) (env : Env) (k : Nat) : Option Bool := match coreAt c k with
  | some (d, .binOp op _ x y _, _, g) => match guardE c g env, okd d N, ev env x, ev env y with
    | some true, true, some (.int kd i), some (.int kd' j) => match decide (kd = kd') with
      | true => cmpI op i j
      | false => none
    | _, _, _, _ => none
  | _ => none
def stE (P : Program) (c : Code) (N : FN) (env : Env) (k : Nat) : Option (Option Nat × Addr × Value) := match coreAt c k with
  | some (d, .store t x y, _, g) => match guardE c g env, okd d N, oneT P t, ev env x, ev env y with
    | some true, true, true, some (.pointer (some ad)), some v => match v.oneCell' with
      | true => some (d, ad, v)
      | false => none
    | _, _, _, _, _ => none
  | _ => none
def rsE (fn : Func) (env : Env) : Option Value := match fn.results.toList with
  | [.tmp t] => look env t
  | _ => none
def rs2E (fn : Func) (env : Env) : Option (Value × Value) := match fn.results.toList with
  | [.tmp t, .tmp u] => match look env t, look env u with
    | some v, some v' => some (v, v')
    | _, _ => none
  | _ => none
section
variable {P : Program} {c : Code} {K : Act → World → Prop} {Q : Exit → Act → World → Prop} {w w0 : World} {S : Nat → Prop} {L : List Res} {k : Nat} {N : FN} {env : Env}
theorem zpn (n : Nat) (h : ∀ a, Fr a N (purE P c N n k env) → From P c K Q (k + n) a w) (hp : isS (pureRun P c N n k env) = true := by kernel_rfl) : ∀ a, Fr a N env → From P c K Q k a w := by
  intro a hF
  unfold purE at h
  cases hr : pureRun P c N n k env with
  | none => rw [hr] at hp; cases hp
  | some e =>
    rw [hr] at h
    exact pure_aux n k hF hr h
theorem zkp (env' : Env) {G : Act → Prop} (h : ∀ a, Fr a N env' → G a) (hk : keepE (keysE env') env = env' := by kernel_rfl) : ∀ a, Fr a N env → G a := fun a hF => h a (hF.keep hk)
theorem zfe (h : ∀ a, Fr a N env → K a w) (hk : coreAt c k = none := by kernel_rfl) : ∀ a, Fr a N env → From P c K Q k a w := fun a hF => From_end hk (h a hF)
theorem zsq (h : ∀ a, Fr a N env → W P (Code.l c) (fun a w => W P (Code.r c) K Q a w) Q a w) (hk : kind c = .seq := by kernel_rfl) : ∀ a, Fr a N env → W P c K Q a w := fun a hF => W_seq hk (h a hF)
theorem zrg (h : ∀ a, Fr a N env → From P c K Q 0 a w) (hk : kind c = .region false := by kernel_rfl) : ∀ a, Fr a N env → W P c K Q a w := fun a hF => W_region hk (h a hF)
theorem zsr (h : ∀ a, Fr a N env → From P (Code.l c) (fun a w => W P (Code.r c) K Q a w) Q 0 a w) (hk : srE c = true := by kernel_rfl) : ∀ a, Fr a N env → W P c K Q a w := fun a hF => W_sr hk (h a hF)
theorem zsp (h : ∀ a, Fr a N (purE P (Code.l c) N (szE (Code.l c)) 0 env) → W P (Code.r c) K Q a w) (hk : srE c = true := by kernel_rfl) (hp : isS (pureRun P (Code.l c) N (szE (Code.l c)) 0 env) = true := by kernel_rfl) :
    ∀ a, Fr a N env → W P c K Q a w := by
  refine zsr (zpn _ (fun a hF => From_end ?_ (h a hF)) hp) hk
  simp [coreAt, szE]
theorem zrp (h : ∀ a, Fr a N (purE P c N (szE c) 0 env) → K a w) (hk : kind c = .region false := by kernel_rfl) (hp : isS (pureRun P c N (szE c) 0 env) = true := by kernel_rfl) :
    ∀ a, Fr a N env → W P c K Q a w := by
  refine zrg (zpn _ (fun a hF => From_end ?_ (h a hF)) hp) hk
  simp [coreAt, szE]
theorem zsk (h : ∀ a, Fr a N env → K a w) (hk : kind c = .skip := by kernel_rfl) : ∀ a, Fr a N env → W P c K Q a w := fun a hF => W_skip hk (h a hF)
theorem zre (h : ∀ a, Fr a N env → Q .ret a w) (hk : kind c = .ret := by kernel_rfl) : ∀ a, Fr a N env → W P c K Q a w := fun a hF => W_ret hk (h a hF)
theorem zex (id : Nat) (h : ∀ a, Fr a N env → Q (.exit id) a w) (hk : kind c = .exit id := by kernel_rfl) : ∀ a, Fr a N env → W P c K Q a w := fun a hF => W_exit hk (h a hF)
theorem zbk (id : Nat) (h : ∀ a, Fr a N env → W P (Code.l c) K (inB id K Q) a w) (hk : kind c = .block id := by kernel_rfl) : ∀ a, Fr a N env → W P c K Q a w := fun a hF => W_block hk (h a hF)
theorem zbr {id : Nat} (h : ∀ a, Fr a N env → Q .ret a w) : ∀ a, Fr a N env → inB id K Q .ret a w := h
theorem zbh {id id' : Nat} (h : ∀ a, Fr a N env → K a w) (e : Nat.beq id' id = true := by rfl) : ∀ a, Fr a N env → inB id K Q (.exit id') a w := fun a hF => inB_hit e (h a hF)
theorem zbm {id id' : Nat} (h : ∀ a, Fr a N env → Q (.exit id') a w) (e : Nat.beq id' id = false := by rfl) : ∀ a, Fr a N env → inB id K Q (.exit id') a w := fun a hF => inB_miss e (h a hF)
theorem cond_spec {v : Value} (h : condE c env = some v) : ∃ t, kind c = .cond (.tmp t) ∧ look env t = some v := by
  unfold condE at h
  split at h
  · rename_i t ht; exact ⟨t, ht, h⟩
  · cases h
theorem zcT (h : ∀ a, Fr a N env → W P (Code.l c) K Q a w) (hk : condE c env = some (.bool true) := by kernel_rfl) : ∀ a, Fr a N env → W P c K Q a w := fun a hF => by
  obtain ⟨t, h1, h2⟩ := cond_spec hk
  exact W_cond h1 hF h2 (fun _ => h a hF) (fun h => Bool.noConfusion h)
theorem zcF (h : ∀ a, Fr a N env → W P (Code.r c) K Q a w) (hk : condE c env = some (.bool false) := by kernel_rfl) : ∀ a, Fr a N env → W P c K Q a w := fun a hF => by
  obtain ⟨t, h1, h2⟩ := cond_spec hk
  exact W_cond h1 hF h2 (fun h => Bool.noConfusion h) (fun _ => h a hF)
theorem zcP (e : Bool) (R : Prop) (i : e = true ↔ R) (ht : R → ∀ a, Fr a N env → W P (Code.l c) K Q a w) (hf : ¬ R → ∀ a, Fr a N env → W P (Code.r c) K Q a w) (hk : condE c env = some (.bool e) := by kernel_rfl) :
    ∀ a, Fr a N env → W P c K Q a w := fun a hF => by
  obtain ⟨t, h1, h2⟩ := cond_spec hk
  exact W_condP h1 hF h2 i (fun r => ht r a hF) (fun r => hf r a hF)
theorem zcD (R : Prop) [Decidable R] (ht : R → ∀ a, Fr a N env → W P (Code.l c) K Q a w) (hf : ¬ R → ∀ a, Fr a N env → W P (Code.r c) K Q a w) (hk : condE c env = some (.bool (decide R)) := by kernel_rfl) :
    ∀ a, Fr a N env → W P c K Q a w := zcP (decide R) R decide_eq_true_iff ht hf hk
theorem zld (ad : Addr) (v : Value) (hc : w.cell? ad = some v) (h : ∀ a, Fr a N (putE env (dstAt c k) v) → From P c K Q (k + 1) a w) (hk : ldE P c N env k = some (dstAt c k, ad) := by kernel_rfl) :
    ∀ a, Fr a N env → From P c K Q k a w := fun _ hF => From_ld _ ad hF hk v hc h
theorem zls (ad : Addr) (vs : List Value) (hc : ∀ j v, vs[j]? = some v → w.cell? (ad.add j) = some v) (h : ∀ a, Fr a N (putE env (dstAt c k) (.agg vs.toArray)) → From P c K Q (k + 1) a w)
    (hk : lsE P c N env k = some (dstAt c k, ad, some vs.length) := by kernel_rfl) : ∀ a, Fr a N env → From P c K Q k a w := fun _ hF => From_ls _ ad vs hF hk hc h
theorem zix (ad : Addr) (n size : Nat) (i : Int) (h : ∀ a, Fr a N (putE env (dstAt c k) (.pointer (some (ad.add (i.toNat * size))))) → From P c K Q (k + 1) a w) (h0 : 0 ≤ i := by omega) (h1 : i < n := by omega)
    (hk : ixE P c N env k = some (dstAt c k, some ad, n, size, i) := by kernel_rfl) : ∀ a, Fr a N env → From P c K Q k a w := fun _ hF => From_ix _ ad n size i hF hk h0 h1 h
theorem zar (z : Int) (h : ∀ a, Fr a N (putE env (dstAt c k) (.int .i64 z)) → From P c K Q (k + 1) a w) (h1 : -9223372036854775808 ≤ z := by omega) (h2 : z ≤ 9223372036854775807 := by omega)
    (hk : arE c N env k = some (dstAt c k, z) := by kernel_rfl) : ∀ a, Fr a N env → From P c K Q k a w := fun _ hF => From_ar _ z hF hk rfl h1 h2 h
theorem cm_spec {b : Bool} (h : cmE c N env k = some b) : ∃ d op t x y t' ty g kd i j, coreAt c k = some (d, .binOp op t x y t', ty, g) ∧ guardE c g env = some true ∧ okd d N = true ∧ ev env x = some (.int kd i) ∧ ev env y = some (.int kd j) ∧ cmpI op i j = some b := by
  unfold cmE at h
  split at h
  · rename_i h0
    split at h
    · rename_i h1 h2 h3 h4
      split at h
      · rename_i h5
        have := of_decide_eq_true h5
        subst this
        exact ⟨_, _, _, _, _, _, _, _, _, _, _, h0, h1, h2, h3, h4, h⟩
      · cases h
    · cases h
  · cases h
theorem zcm (b : Bool) (h : ∀ B, B = b → ∀ a, Fr a N (putE env (dstAt c k) (.bool B)) → From P c K Q (k + 1) a w) (hk : cmE c N env k = some b := by kernel_rfl) : ∀ a, Fr a N env → From P c K Q k a w := fun a hF => by
  obtain ⟨d, op, t, x, y, t', ty, g, kd, i, j, h0, h1, h2, h3, h4, h5⟩ := cm_spec hk
  have hd : dstAt c k = d := by unfold coreAt at h0; unfold dstAt; cases ho : (opsOf c)[k]? <;> rw [ho] at h0 <;> simp at h0 ⊢; exact h0.1
  rw [hd] at h
  exact From_cmp h0 hF h1 h2 rfl h3 h4 h5 (fun B hB a' _ => h B hB a')
theorem zcl {f : FuncId} {vs : Array Value} {Φ : Value → World → Prop} (hc : Calls P f vs w (Ret Φ)) (h : ∀ v w', Φ v w' → ∀ a, Fr a N (putE env (dstAt c k) v) → From P c K Q (k + 1) a w')
    (hk : clE P c N env k = some (dstAt c k, f, vs) := by kernel_rfl) : ∀ a, Fr a N env → From P c K Q k a w := fun _ hF => From_cl _ f vs.toList hF hk hc h
theorem st_spec {d : Option Nat} {ad : Addr} {v : Value} (h : stE P c N env k = some (d, ad, v)) : ∃ t x y ty g, coreAt c k = some (d, .store t x y, ty, g) ∧ guardE c g env = some true ∧ okd d N = true ∧ oneT P t = true ∧
    ev env x = some (.pointer (some ad)) ∧ ev env y = some v ∧ v.oneCell' = true := by
  unfold stE at h
  split at h
  · rename_i h0
    split at h
    · rename_i h1 h2 h3 h4 h5
      split at h
      · rename_i h6
        simp only [Option.some.injEq, Prod.mk.injEq] at h
        obtain ⟨rfl, rfl, rfl⟩ := h
        exact ⟨_, _, _, _, _, h0, h1, h2, h3, h4, h5, h6⟩
      · cases h
    · cases h
  · cases h
theorem zsb (hM : Mem S w0 w L) (i : Nat) (off : Nat) (v : Value) {b t0 : Nat} {cs : List Value} (hi : L[i]? = some (.blk b t0 cs)) (h : ∀ w', Mem S w0 w' (L.set i (.blk b t0 (cs.set off v))) → ∀ a, Fr a N (putE env (dstAt c k) undef) → From P c K Q (k + 1) a w')
    (ho : off < cs.length := by decide) (hk : stE P c N env k = some (dstAt c k, ⟨b, off, none⟩, v) := by kernel_rfl) : ∀ a, Fr a N env → From P c K Q k a w := fun a hF => by
  obtain ⟨t, x, y, ty, g, h0, h1, h2, h3, h4, h5, h6⟩ := st_spec hk
  exact From_store_blk h0 hF h1 h2 rfl h4 h5 h3 h6 hM i hi ho (fun w' hM' _ a' _ => h w' hM' a')
theorem zsw (hM : Mem S w0 w L) (i : Nat) (ad' : Addr) (j : Nat) (v : Value) {e size n cap : Nat} {ad : Addr} {xs : List Value} (hi : L[i]? = some (.row e size (some ad) n cap xs)) (had : ad' = ad.add j) (hj : j < n * size)
    (h : ∀ w', Mem S w0 w' (L.set i (.row e size (some ad) n cap (xs.set j v))) → ∀ a, Fr a N (putE env (dstAt c k) undef) → From P c K Q (k + 1) a w')
    (hk : stE P c N env k = some (dstAt c k, ad', v) := by kernel_rfl) : ∀ a, Fr a N env → From P c K Q k a w := fun a hF => by
  obtain ⟨t, x, y, ty, g, h0, h1, h2, h3, h4, h5, h6⟩ := st_spec hk
  exact From_store_row h0 hF h1 h2 rfl h4 had h5 h3 h6 hM i hi hj (fun w' hM' _ a' _ => h w' hM' a')
end
section
variable {P : Program} {w : World} {N : FN} {env : Env} {fn : Func} {Φ : Value → World → Prop}
theorem zo1 (v : Value) (h : Φ v w) (hk : rsE fn env = some v := by kernel_rfl) (hD : N.D = [] := by rfl) : ∀ a, Fr a N env → bodyPost P fn (Ret Φ) .ret a w := fun a hF => by
  unfold rsE at hk
  split at hk
  · rename_i t ht
    exact out1 hF (by apply Array.ext'; simpa using ht) hk ⟨v, rfl, h⟩ hD
  · cases hk
theorem zo2 (v v' : Value) (h : Φ (.tuple #[v, v']) w) (hk : rs2E fn env = some (v, v') := by kernel_rfl) (hD : N.D = [] := by rfl) : ∀ a, Fr a N env → bodyPost P fn (Ret Φ) .ret a w := fun a hF => by
  unfold rs2E at hk
  split at hk
  · rename_i t u ht
    split at hk
    · rename_i h1 h2
      simp only [Option.some.injEq, Prod.mk.injEq] at hk
      obtain ⟨rfl, rfl⟩ := hk
      exact out2 hF (by apply Array.ext'; simpa using ht) h1 h2 ⟨_, rfl, h⟩ hD
    · cases hk
  · cases hk
theorem zo0 (h : Φ (.tuple #[]) w) (hk : fn.results = #[] := by rfl) (hD : N.D = [] := by rfl) : ∀ a, Fr a N env → bodyPost P fn (Ret Φ) .normal a w := fun _ hF => out0 hF hk ⟨_, rfl, h⟩ hD
theorem zen {f : FuncId} (N : FN) (vs : List Value) (hf : P.funcs[f]? = some fn) (h : ∀ a, Fr a N (argE 0 vs) → W P (bodyOf fn) (bodyPost P fn (Ret Φ) .normal) (bodyPost P fn (Ret Φ)) a w)
    (hb : fn.body.isSome = true := by kernel_rfl) (hn : Nat.beq fn.ntmps N.n = true := by kernel_rfl) (hl : Nat.ble vs.length N.n = true := by kernel_rfl) (hD : N.D = [] := by rfl) : Calls P f vs.toArray w (Ret Φ) := enter hf hb hn hl h hD
end
def dvE : Spec → Option Value
  | .det u => some u
  | _ => none
def p1E (P : Program) (c : Code) (N : FN) (i : Nat) (env : Env) : Option Value := match coreAt c i with
  | some (d, op, _, g) => match guardE c g env, okd d N with
    | some true, true => pureOp P env op
    | _, _ => none
  | none => none
def gtE (c : Code) (i : Nat) (env : Env) : Option Bool := match coreAt c i with
  | some (_, _, _, g) => guardE c g env
  | none => none
theorem gt_spec {c : Code} {i : Nat} {env : Env} {b : Bool} (h : gtE c i env = some b) : ∀ g, (coreAt c i).map (·.2.2.2) = some g → guardE c g env = some b := by
  intro g hg
  unfold gtE at h
  split at h
  · rename_i h0
    rw [h0] at hg
    simp only [Option.map_some, Option.some.injEq] at hg
    subst hg
    exact h
  · cases h
theorem look_app_left {E F : Env} {t : Nat} {v : Value} (h : look E t = some v) : look (E ++ F) t = some v := by
  induction E with
  | nil => cases h
  | cons x r ih =>
    obtain ⟨k, u⟩ := x
    simp only [List.cons_append, look] at h ⊢
    cases hq : Nat.beq k t with
    | true => rw [hq] at h; exact h
    | false => rw [hq] at h; exact ih h
section
variable {P : Program} {c : Code} {Q : Exit → Act → World → Prop} {N : FN} {i : Nat} {env0 : Env} {wr : World} {sp : Nat → Spec}
theorem Fr.left {a : Act} {E F : Env} (h : Fr a N (E ++ F)) : Fr a N E := ⟨h.defers, h.size, fun t v hv => h.slot t v (look_app_left hv)⟩
theorem guard_left {g : Option (Nat × Bool)} {E F : Env} {b : Bool} (h : guardE c g E = some b) : guardE c g (E ++ F) = some b := by
  unfold guardE at h ⊢
  cases g with
  | none => exact h
  | some p =>
    obtain ⟨j, want⟩ := p
    simp only at h ⊢
    cases hd : ((opsOf c)[j]?).bind (·.dst) with
    | none => rw [hd] at h; cases h
    | some d =>
      rw [hd] at h
      simp only at h ⊢
      cases hl : look E d with
      | none => rw [hl] at h; cases h
      | some v =>
        rw [hl] at h
        rw [look_app_left hl]
        exact h
theorem op_of (hg : ∀ vs, gtE c i (predE c i sp vs env0) = some true)
    (h : ∀ (w : World) (vs : Nat → Value), Kp wr w → (∀ j, j ∈ predsOf c i → (sp j).ok (vs j) w) → ∀ a, Fr a N (predE c i sp vs env0) → From P (one c i) (fun a' w' => ∃ v, a' = a.put (dstAt c i) v ∧ Kp w w' ∧ (sp i).ok v w') Q 0 a w) : OpOK P c Q N env0 wr sp i := by
  intro a w vs rest hK hp hF
  exact ⟨true, fun g hg' => guard_left (gt_spec (hg vs) g hg'), fun _ => h w vs hK hp a hF.left, fun h => Bool.noConfusion h⟩
theorem one_at {o : Option Nat × Op × Nat × Option (Nat × Bool)} (h : coreAt c i = some o) : coreAt (one c i) 0 = some (o.1, o.2.1, o.2.2.1, none) ∧ dstAt c i = o.1 := by
  unfold coreAt at h
  cases ho : (opsOf c)[i]? with
  | none => rw [ho] at h; cases h
  | some q =>
    rw [ho] at h
    simp only [Option.map_some, Option.some.injEq] at h
    subst h
    constructor
    · unfold coreAt
      rw [one_core ho]
      rfl
    · simp [dstAt, ho]
theorem one_end {k : Nat} {o : Option Nat × Op × Nat × Option (Nat × Bool)} (h : coreAt c i = some o) : coreAt (one c i) (k + 1) = none := by
  unfold coreAt at h ⊢
  cases ho : (opsOf c)[i]? with
  | none => rw [ho] at h; cases h
  | some q =>
    rw [one_core ho]
    simp
theorem dP (h : ∀ vs, p1E P c N i (predE c i sp vs env0) = dvE (sp i) := by intro _; kernel_rfl) (h2 : isS (dvE (sp i)) = true := by kernel_rfl) : OpOK P c Q N env0 wr sp i := by
  have key : ∀ vs, ∃ d op ty g v, coreAt c i = some (d, op, ty, g) ∧ guardE c g (predE c i sp vs env0) = some true ∧ okd d N = true ∧ pureOp P (predE c i sp vs env0) op = some v ∧ sp i = .det v := by
    intro vs
    have h3 := h vs
    cases hs : sp i with
    | any Φ hh => rw [hs] at h2; cases h2
    | det u =>
      rw [hs] at h3
      unfold p1E dvE at h3
      simp only at h3
      split at h3
      · rename_i h4
        split at h3
        · rename_i h5 h6
          exact ⟨_, _, _, _, u, h4, h5, h6, h3, rfl⟩
        · cases h3
      · cases h3
  refine op_of (fun vs => ?_) (fun w vs hK hp a hF => ?_)
  · obtain ⟨d, op, ty, g, v, h1, h2, _⟩ := key vs
    unfold gtE
    rw [h1]
    exact h2
  · obtain ⟨d, op, ty, g, v, h1, h2, h3, h4, h5⟩ := key vs
    obtain ⟨e1, e2⟩ := one_at h1
    refine From_pure1 e1 hF rfl h3 rfl h4 (fun a' ea _ => From_end (one_end h1) ⟨v, ?_, Kp.refl w, ?_⟩)
    · rw [e2]; exact ea
    · rw [h5]; rfl
theorem ld_spec {k : Nat} {c : Code} {env : Env} {d : Option Nat} {ad : Addr} (hk : ldE P c N env k = some (d, ad)) : ∃ t x ty g, coreAt c k = some (d, .load t x, ty, g) ∧ guardE c g env = some true ∧ okd d N = true ∧ oneT P t = true ∧ ev env x = some (.pointer (some ad)) := by
  unfold ldE at hk
  split at hk
  · rename_i h0
    split at hk
    · rename_i h1 h2 h3 h4
      simp only [Option.some.injEq, Prod.mk.injEq] at hk
      obtain ⟨rfl, rfl⟩ := hk
      exact ⟨_, _, _, _, h0, h1, h2, h3, h4⟩
    · cases hk
  · cases hk
theorem ls_spec {k : Nat} {c : Code} {env : Env} {d : Option Nat} {ad : Addr} {n : Nat} (hk : lsE P c N env k = some (d, ad, some n)) : ∃ t x ty g, coreAt c k = some (d, .load t x, ty, g) ∧ guardE c g env = some true ∧ okd d N = true ∧ aggT P t = some n ∧ ev env x = some (.pointer (some ad)) := by
  unfold lsE at hk
  split at hk
  · rename_i h0
    split at hk
    · rename_i h1 h2 h4
      simp only [Option.some.injEq, Prod.mk.injEq] at hk
      obtain ⟨rfl, rfl, h3⟩ := hk
      exact ⟨_, _, _, _, h0, h1, h2, h3, h4⟩
    · cases hk
  · cases hk
theorem ix_spec {k : Nat} {c : Code} {env : Env} {d : Option Nat} {A : Option Addr} {n size : Nat} {j : Int} (hk : ixE P c N env k = some (d, A, n, size, j)) :
    ∃ t x y ty g cap e kd, coreAt c k = some (d, .indexAddr t x y, ty, g) ∧ guardE c g env = some true ∧ okd d N = true ∧ ev env x = some (.slice A n cap) ∧ ev env y = some (.int kd j) ∧ P.underlying t = some (.slice e) ∧ (P.info? e).map (·.size) = some size := by
  unfold ixE at hk
  split at hk
  · rename_i g0
    split at hk
    · rename_i g1 g2 g3 g4
      split at hk
      · rename_i e ht
        split at hk
        · rename_i inf hs
          simp only [Option.some.injEq, Prod.mk.injEq] at hk
          obtain ⟨rfl, rfl, rfl, rfl, rfl⟩ := hk
          exact ⟨_, _, _, _, _, _, _, _, g0, g1, g2, g3, g4, ht, by rw [hs]; rfl⟩
        · cases hk
      · cases hk
    · cases hk
  · cases hk
theorem ar_spec {k : Nat} {c : Code} {env : Env} {d : Option Nat} {z : Int} (hk : arE c N env k = some (d, z)) :
    ∃ op t x y t' ty g i j, coreAt c k = some (d, .binOp op t x y t', ty, g) ∧ guardE c g env = some true ∧ okd d N = true ∧ ev env x = some (.int .i64 i) ∧ ev env y = some (.int .i64 j) ∧ arI op i j = some z := by
  unfold arE at hk
  split at hk
  · rename_i g0
    split at hk
    · rename_i g1 g2 g3 g4
      split at hk
      · rename_i z hz
        simp only [Option.some.injEq, Prod.mk.injEq] at hk
        obtain ⟨rfl, rfl⟩ := hk
        exact ⟨_, _, _, _, _, _, _, _, _, g0, g1, g2, g3, g4, hz⟩
      · cases hk
    · cases hk
  · cases hk
theorem dL (ad : Addr) (v : Value) (hc : ∀ w', Kp wr w' → w'.cell? ad = some v) (hv : sp i = .det v := by rfl) (hg : ∀ vs, gtE c i (predE c i sp vs env0) = some true := by intro _; kernel_rfl)
    (hk : ∀ vs, ldE P (one c i) N (predE c i sp vs env0) 0 = some (dstAt c i, ad) := by intro _; kernel_rfl) (he : coreAt (one c i) 1 = none := by kernel_rfl) : OpOK P c Q N env0 wr sp i := by
  refine op_of hg (fun w vs hK hp a hF => ?_)
  obtain ⟨t, x, ty, g, h0, h1, h2, h3, h4⟩ := ld_spec (hk vs)
  exact From_load1 h0 hF h1 h2 rfl h4 h3 (hc w hK) (fun a' ea _ => From_end he ⟨v, ea, Kp.refl w, by rw [hv]; rfl⟩)
theorem dS (ad : Addr) (vs : List Value) (hc : ∀ w', Kp wr w' → ∀ j v, vs[j]? = some v → w'.cell? (ad.add j) = some v) (hv : sp i = .det (.agg vs.toArray) := by rfl) (hg : ∀ vs, gtE c i (predE c i sp vs env0) = some true := by intro _; kernel_rfl)
    (hk : ∀ vs', lsE P (one c i) N (predE c i sp vs' env0) 0 = some (dstAt c i, ad, some vs.length) := by intro _; kernel_rfl) (he : coreAt (one c i) 1 = none := by kernel_rfl) : OpOK P c Q N env0 wr sp i := by
  refine op_of hg (fun w vs' hK hp a hF => ?_)
  obtain ⟨t, x, ty, g, h0, h1, h2, h3, h4⟩ := ls_spec (hk vs')
  exact From_loadS h0 hF h1 h2 rfl h4 h3 (hc w hK) (fun a' ea _ => From_end he ⟨_, ea, Kp.refl w, by rw [hv]; rfl⟩)
theorem dI (ad : Addr) (n size : Nat) (j : Int) (h0 : 0 ≤ j := by omega) (h1 : j < n := by omega) (hv : sp i = .det (.pointer (some (ad.add (j.toNat * size)))) := by rfl) (hg : ∀ vs, gtE c i (predE c i sp vs env0) = some true := by intro _; kernel_rfl)
    (hk : ∀ vs, ixE P (one c i) N (predE c i sp vs env0) 0 = some (dstAt c i, some ad, n, size, j) := by intro _; kernel_rfl) (he : coreAt (one c i) 1 = none := by kernel_rfl) : OpOK P c Q N env0 wr sp i := by
  refine op_of hg (fun w vs hK hp a hF => ?_)
  obtain ⟨t, x, y, ty, g, cap, e, kd, g0, g1, g2, g3, g4, g5, g6⟩ := ix_spec (hk vs)
  exact From_index g0 hF g1 g2 rfl g3 g4 rfl g5 g6 h0 h1 (fun a' ea _ => From_end he ⟨_, ea, Kp.refl w, by rw [hv]; rfl⟩)
theorem dA (z : Int) (h1 : -9223372036854775808 ≤ z := by omega) (h2 : z ≤ 9223372036854775807 := by omega) (hv : sp i = .det (.int .i64 z) := by rfl) (hg : ∀ vs, gtE c i (predE c i sp vs env0) = some true := by intro _; kernel_rfl)
    (hk : ∀ vs, arE (one c i) N (predE c i sp vs env0) 0 = some (dstAt c i, z) := by intro _; kernel_rfl) (he : coreAt (one c i) 1 = none := by kernel_rfl) : OpOK P c Q N env0 wr sp i := by
  refine op_of hg (fun w vs hK hp a hF => ?_)
  obtain ⟨op, t, x, y, t', ty, g, i1, j1, g0, g1, g2, g3, g4, g5⟩ := ar_spec (hk vs)
  exact From_arith g0 hF g1 g2 rfl g3 g4 g5 h1 h2 (fun a' ea _ => From_end he ⟨_, ea, Kp.refl w, by rw [hv]; rfl⟩)
theorem dC (b : Bool) {B : Bool} (hb : B = b) (hv : sp i = .det (.bool B) := by rfl) (hg : ∀ vs, gtE c i (predE c i sp vs env0) = some true := by intro _; kernel_rfl)
    (hk : ∀ vs, cmE (one c i) N (predE c i sp vs env0) 0 = some b := by intro _; kernel_rfl) (he : coreAt (one c i) 1 = none := by kernel_rfl) : OpOK P c Q N env0 wr sp i := by
  refine op_of hg (fun w vs hK hp a hF => ?_)
  obtain ⟨d, op, t, x, y, t', ty, g, kd, i1, j1, g0, g1, g2, g3, g4, g5⟩ := cm_spec (hk vs)
  have hd : dstAt c i = d := by
    cases hc : coreAt c i with
    | none =>
      have := hg vs
      unfold gtE at this
      rw [hc] at this
      cases this
    | some o =>
      obtain ⟨e1, e2⟩ := one_at hc
      rw [e1] at g0
      simp only [Option.some.injEq, Prod.mk.injEq] at g0
      rw [e2, g0.1]
  exact From_cmp g0 hF g1 g2 rfl g3 g4 g5 (fun B' hB' a' ea _ => From_end he ⟨_, by rw [hd]; exact ea, Kp.refl w, by rw [hv, hB', hb]; rfl⟩)
end
section
variable {P : Program} {c : Code} {Q : Exit → Act → World → Prop} {N : FN} {i : Nat} {env0 : Env} {sp : Nat → Spec} {J : (Nat → Bool) → (Nat → Value) → World → Prop}
theorem opJ_of (hg : ∀ vs, gtE c i (predE c i sp vs env0) = some true)
    (h : ∀ (w : World) (ls : Nat → Bool) (vs : Nat → Value), J ls vs w → ls i = false → Closed c ls → (∀ j, j ∈ predsOf c i → ls j = true ∧ (sp j).ok (vs j) w) → ∀ a, Fr a N (predE c i sp vs env0) →
      From P (one c i) (fun a' w' => ∃ v, a' = a.put (dstAt c i) v ∧ (sp i).ok v w' ∧ J (setB ls i) (setV vs i v) w') Q 0 a w) : OpOKJ P c Q N env0 sp J i := by
  intro a w ls vs rest hJ hi hc hp hF
  exact ⟨true, fun g hg' => guard_left (gt_spec (hg vs) g hg'), fun _ => h w ls vs hJ hi hc hp a hF.left, fun h => Bool.noConfusion h⟩
theorem dPJ (hJ : ∀ ls vs v w, J ls vs w → J (setB ls i) (setV vs i v) w) (h : ∀ vs, p1E P c N i (predE c i sp vs env0) = dvE (sp i) := by intro _; kernel_rfl) (h2 : isS (dvE (sp i)) = true := by kernel_rfl) : OpOKJ P c Q N env0 sp J i := by
  have key : ∀ vs, ∃ d op ty g v, coreAt c i = some (d, op, ty, g) ∧ guardE c g (predE c i sp vs env0) = some true ∧ okd d N = true ∧ pureOp P (predE c i sp vs env0) op = some v ∧ sp i = .det v := by
    intro vs
    have h3 := h vs
    cases hs : sp i with
    | any Φ hh => rw [hs] at h2; cases h2
    | det u =>
      rw [hs] at h3
      unfold p1E dvE at h3
      simp only at h3
      split at h3
      · rename_i h4
        split at h3
        · rename_i h5 h6
          exact ⟨_, _, _, _, u, h4, h5, h6, h3, rfl⟩
        · cases h3
      · cases h3
  refine opJ_of (fun vs => ?_) (fun w ls vs hj hi hc hp a hF => ?_)
  · obtain ⟨d, op, ty, g, v, h1, h2, _⟩ := key vs
    unfold gtE
    rw [h1]
    exact h2
  · obtain ⟨d, op, ty, g, v, h1, h2, h3, h4, h5⟩ := key vs
    obtain ⟨e1, e2⟩ := one_at h1
    refine From_pure1 e1 hF rfl h3 rfl h4 (fun a' ea _ => From_end (one_end h1) ⟨v, ?_, ?_, hJ _ _ _ _ hj⟩)
    · rw [e2]; exact ea
    · rw [h5]; rfl
theorem dIJ (ad : Addr) (n size : Nat) (j : Int) (hJ : ∀ ls vs v w, J ls vs w → J (setB ls i) (setV vs i v) w) (h0 : 0 ≤ j := by omega) (h1 : j < n := by omega) (hv : sp i = .det (.pointer (some (ad.add (j.toNat * size)))) := by rfl) (hg : ∀ vs, gtE c i (predE c i sp vs env0) = some true := by intro _; kernel_rfl)
    (hk : ∀ vs, ixE P (one c i) N (predE c i sp vs env0) 0 = some (dstAt c i, some ad, n, size, j) := by intro _; kernel_rfl) (he : coreAt (one c i) 1 = none := by kernel_rfl) : OpOKJ P c Q N env0 sp J i := by
  refine opJ_of hg (fun w ls vs hj hi hc hp a hF => ?_)
  obtain ⟨t, x, y, ty, g, cap, e, kd, g0, g1, g2, g3, g4, g5, g6⟩ := ix_spec (hk vs)
  exact From_index g0 hF g1 g2 rfl g3 g4 rfl g5 g6 h0 h1 (fun a' ea _ => From_end he ⟨_, ea, by rw [hv]; rfl, hJ _ _ _ _ hj⟩)
theorem dLJ (ad : Addr) (v : Value) (hJ : ∀ ls vs v w, J ls vs w → J (setB ls i) (setV vs i v) w) (hc : ∀ w ls vs, J ls vs w → ls i = false → Closed c ls → (∀ j, j ∈ predsOf c i → ls j = true) → w.cell? ad = some v) (hv : sp i = .det v := by rfl)
    (hg : ∀ vs, gtE c i (predE c i sp vs env0) = some true := by intro _; kernel_rfl)
    (hk : ∀ vs, ldE P (one c i) N (predE c i sp vs env0) 0 = some (dstAt c i, ad) := by intro _; kernel_rfl) (he : coreAt (one c i) 1 = none := by kernel_rfl) : OpOKJ P c Q N env0 sp J i := by
  refine opJ_of hg (fun w ls vs hj hi hcl hp a hF => ?_)
  obtain ⟨t, x, ty, g, h0, h1, h2, h3, h4⟩ := ld_spec (hk vs)
  exact From_load1 h0 hF h1 h2 rfl h4 h3 (hc w ls vs hj hi hcl (fun j hj' => (hp j hj').1)) (fun a' ea _ => From_end he ⟨v, ea, by rw [hv]; rfl, hJ _ _ _ _ hj⟩)
end
end Go.Mor
namespace Go.Mor
theorem zne {α : Type} [BEq α] [LawfulBEq α] {a b : α} (h : false = (a == b)) : ¬ (a = b) := fun e => Bool.false_ne_true (h.trans (beq_iff_eq.2 e))
theorem znn {α : Type} [BEq α] [LawfulBEq α] {a b : α} (h : false = (a != b)) : ¬ (a ≠ b) := fun e => Bool.false_ne_true (h.trans (bne_iff_ne.2 e))
end Go.Mor
namespace Go.Mor
open Go.RowKit
abbrev dU : Spec := .det undef
theorem lz {p : Nat → Prop} : ∀ i, i < 0 → p i := lt_zero_all
theorem la {p : Nat → Prop} {n : Nat} (h : ∀ i, i < n → p i) (hn : p n) : ∀ i, i < n + 1 → p i := lt_succ_all h hn
section
variable {P : Program} {c : Code} {Q : Exit → Act → World → Prop} {N : FN} {i : Nat} {env0 : Env} {wr : World} {sp : Nat → Spec}
theorem dK (hv : sp i = .det undef := by rfl) (hg : ∀ vs, gtE c i (predE c i sp vs env0) = some false := by intro _; kernel_rfl) : OpOK P c Q N env0 wr sp i := by
  intro a w vs rest hK hp hF
  exact ⟨false, fun g hg' => guard_left (gt_spec (hg vs) g hg'), fun h => Bool.noConfusion h, fun _ => by rw [hv]; rfl⟩
theorem cl_spec {k : Nat} {c : Code} {env : Env} {d : Option Nat} {f : FuncId} {vs : Array Value} (hk : clE P c N env k = some (d, f, vs)) :
    ∃ x args ts ty g us cap, coreAt c k = some (d, .call { callee := .value x, args := args, argTypes := ts }, ty, g) ∧ guardE c g env = some true ∧ okd d N = true ∧ ev env x = some (.func (.func f) #[] cap) ∧ evs env args.toList = some us ∧ callOk P f = true ∧ (us ++ cap.toList).toArray = vs := by
  unfold clE at hk
  split at hk
  · rename_i d' x args ts ty g g0
    split at hk
    · rename_i f' first cap us g1 g2 g3 g4
      split at hk
      · rename_i hs hf
        simp only [Option.some.injEq, Prod.mk.injEq] at hk
        obtain ⟨rfl, rfl, hv⟩ := hk
        have hfirst : first = #[] := Array.eq_empty_of_size_eq_zero hs
        subst hfirst
        exact ⟨x, args, ts, ty, g, us, cap, g0, g1, g2, g3, g4, hf, hv⟩
      · cases hk
    · cases hk
  · cases hk
theorem dD {f : FuncId} {vs : Array Value} {u u' : Value} (hc : ∀ w, Kp wr w → Calls P f vs w (Ret fun v w' => v = u ∧ Mem noS w w' [])) (hu : u = u') (hv : sp i = .det u' := by rfl) (hg : ∀ vs, gtE c i (predE c i sp vs env0) = some true := by intro _; kernel_rfl)
    (hk : ∀ vs', clE P (one c i) N (predE c i sp vs' env0) 0 = some (dstAt c i, f, vs) := by intro _; kernel_rfl) (he : coreAt (one c i) 1 = none := by kernel_rfl) : OpOK P c Q N env0 wr sp i := by
  refine op_of hg (fun w vs' hK hp a hF => ?_)
  obtain ⟨x, args, ts, ty, g, us, cap, g0, g1, g2, g3, g4, g5, g6⟩ := cl_spec (hk vs')
  refine From_call (Φ := fun v w' => v = u ∧ Mem noS w w' []) g0 hF g1 g2 rfl (cap := cap.toList) (by simpa using g3) g4 g5 (by rw [g6]; exact hc w hK) (fun v w' hv' a' ea _ => From_end he ⟨v, ea, hv'.2, ?_⟩)
  rw [hv, hv'.1]; exact hu
end
def mvL : Nat → List Res → List Res
  | 0, L => L
  | _ + 1, [] => []
  | n + 1, a :: L => match mvL n L with
    | [] => [a]
    | b :: M => b :: a :: M
def odL : List Nat → List Res → List Res
  | [], L => L
  | i :: l, L => odL l (mvL i L)
def tkL : Nat → List Res → List Res
  | 0, _ => []
  | _ + 1, [] => []
  | n + 1, a :: L => a :: tkL n L
theorem mvL_perm : ∀ (n : Nat) (L : List Res), L.Perm (mvL n L)
  | 0, L => List.Perm.refl L
  | _ + 1, [] => List.Perm.refl []
  | n + 1, a :: L => by
    unfold mvL
    have h := mvL_perm n L
    cases hm : mvL n L with
    | nil => rw [hm] at h; exact h.cons a
    | cons b M => rw [hm] at h; exact (h.cons a).trans (List.Perm.swap b a M)
theorem odL_perm : ∀ (l : List Nat) (L : List Res), L.Perm (odL l L)
  | [], L => List.Perm.refl L
  | i :: l, L => (mvL_perm i L).trans (odL_perm l _)
theorem tkL_pick : ∀ (n : Nat) (L : List Res), pickL (List.replicate n true) L = tkL n L
  | 0, [] => rfl
  | 0, _ :: _ => rfl
  | _ + 1, [] => rfl
  | n + 1, a :: L => by
    rw [List.replicate_succ]
    show a :: pickL (List.replicate n true) L = a :: tkL n L
    rw [tkL_pick n L]
section
variable {S : Nat → Prop} {w0 w w' : World} {L Lr L' : List Res} {r r' s s' : Res}
theorem Mem.nf (h : Mem S w0 w L) (e : L = L' := by dsimp only [List.set_cons_zero, List.set_cons_succ, List.cons_append, List.nil_append]) : Mem S w0 w L' := e ▸ h
theorem Mem.cl (h : Mem S w0 w L) (h' : Mem noS w w' Lr) (e : L ++ Lr = L' := by dsimp only [List.cons_append, List.nil_append, List.append_nil]) : Mem S w0 w' L' := e ▸ h.call h'
theorem Mem.md (h : Mem S w0 w L) (i : Nat) (hi : L[i]? = some r) (h' : Mem r.fp w w' (r' :: Lr)) (e : L.set i r' ++ Lr = L' := by dsimp only [List.set_cons_zero, List.set_cons_succ, List.cons_append, List.nil_append, List.append_nil]) : Mem S w0 w' L' := e ▸ h.mod i hi h'
theorem Mem.md2 (h : Mem S w0 w (r :: s :: L)) (h' : Mem (r.and s).fp w w' (r' :: s' :: Lr)) (e : r' :: s' :: (L ++ Lr) = L' := by dsimp only [List.cons_append, List.nil_append, List.append_nil]) : Mem S w0 w' L' := e ▸ h.mod2 h'
theorem Mem.od (h : Mem S w0 w L) (l : List Nat) (k : Nat) (e : tkL k (odL l L) = L' := by dsimp only [tkL, odL, mvL]) : Mem S w0 w L' := e ▸ (h.perm (odL_perm l L)).pick _ (tkL_pick k _)
theorem Mem.tk (h : Mem S w0 w L) (k : Nat) (e : tkL k L = L' := by rfl) : Mem S w0 w L' := e ▸ h.pick _ (tkL_pick k _)
end
abbrev pT (b o : Nat) : Value := .pointer (some ⟨b, o, none⟩)
abbrev sM (g : Nat) : Option Addr := some ⟨g, 0, none⟩
abbrev nV (k : Nat) : Value := .int .i64 (k : Int)
theorem Fr.kp {a : Act} {N : FN} {env : Env} (h : Fr a N env) (keep : List Nat) {env' : Env} (e : keepE keep env = env' := by kernel_rfl) : Fr a N env' := h.keep e
section
variable {P : Program} {c : Code} {K : Act → World → Prop} {Q : Exit → Act → World → Prop} {a : Act} {w w0 : World} {S : Nat → Prop} {L : List Res} {k : Nat} {N : FN} {env : Env}
theorem zlp (I : Nat → Act → World → Prop) {n : Nat} (h0 : I n a w) (round : ∀ n a w, I n a w → W P (Code.l c) (fun a' w' => ∃ m, m < n ∧ I m a' w') Q a w) (hk : kind c = .loop := by kernel_rfl) : W P c K Q a w := W_loop hk I h0 round
theorem zpk (n k' : Nat) {news : Env} (keys : List Nat) (hF : Fr a N env) (hp : (pureRun P c N n k env).map (keepE keys) = some news) (h : ∀ a', Fr a' N (news ++ env) → From P c K Q k' a' w) (hc : clearK keys env (dstsOf c n k) = true := by kernel_rfl) (hk : k + n = k' := by rfl) : From P c K Q k a w := From_pureN n k' keys hF hp hc hk h
def bxE (_P : Program) (c : Code) (N : FN) (env : Env) (k : Nat) : Option (Option Nat × TypeId × Value) := match coreAt c k with
  | some (d, .box t x, _, g) => match guardE c g env, okd d N, ev env x with
    | some true, true, some v => some (d, t, v)
    | _, _, _ => none
  | _ => none
theorem zbx (hM : Mem S w0 w L) (t : TypeId) (v : Value) (cs : List Value) (h : ∀ b w', w0.heap.size ≤ b → Mem S w0 w' (L ++ [.blk b t cs]) → ∀ a, Fr a N (putE env (dstAt c k) (.pointer (some ⟨b, 0, none⟩))) → From P c K Q (k + 1) a w')
    (hcs : v.cells = cs.toArray := by rfl) (hk : bxE P c N env k = some (dstAt c k, t, v) := by kernel_rfl) : ∀ a, Fr a N env → From P c K Q k a w := by
  intro a hF
  unfold bxE at hk
  split at hk
  · rename_i g0
    split at hk
    · rename_i g1 g2 g3
      simp only [Option.some.injEq, Prod.mk.injEq] at hk
      obtain ⟨e1, rfl, rfl⟩ := hk
      rw [e1] at g0 g2
      exact From_box g0 hF g1 g2 rfl g3 hcs hM (fun b w' hb _ hM' _ a' _ hF' => h b w' hb hM' a' hF')
    · cases hk
  · cases hk
def alE (_P : Program) (c : Code) (N : FN) (env : Env) (k : Nat) : Option (Option Nat × TypeId) := match coreAt c k with
  | some (d, .alloc t, _, g) => match guardE c g env, okd d N with
    | some true, true => some (d, t)
    | _, _ => none
  | _ => none
theorem zal (hM : Mem S w0 w L) (t : TypeId) (cs : List Value) (h : ∀ b w', w0.heap.size ≤ b → Mem S w0 w' (L ++ [.blk b t cs]) → ∀ a, Fr a N (putE env (dstAt c k) (.pointer (some ⟨b, 0, none⟩))) → From P c K Q (k + 1) a w')
    (hz : (P.info? t).map (fun i => i.zero.map (fun z => z.cells.toList)) = some (some cs) := by kernel_rfl) (hk : alE P c N env k = some (dstAt c k, t) := by kernel_rfl) : ∀ a, Fr a N env → From P c K Q k a w := by
  intro a hF
  unfold alE at hk
  split at hk
  · rename_i g0
    split at hk
    · rename_i g1 g2
      simp only [Option.some.injEq, Prod.mk.injEq] at hk
      obtain ⟨e1, rfl⟩ := hk
      rw [e1] at g0 g2
      exact From_alloc g0 hF g1 g2 rfl hz hM (fun b w' hb _ hM' _ a' _ hF' => h b w' hb hM' a' hF')
    · cases hk
  · cases hk
def ssE (P : Program) (c : Code) (N : FN) (env : Env) (k : Nat) : Option (Option Nat × Nat × Nat × Array Value × Option Nat) := match coreAt c k with
  | some (d, .store t x y, _, g) => match guardE c g env, okd d N, ev env x, ev env y with
    | some true, true, some (.pointer (some ⟨b, o, none⟩)), some (.agg vs) => some (d, b, o, vs, aggT P t)
    | _, _, _, _ => none
  | _ => none
theorem zss (hM : Mem S w0 w L) (i : Nat) (vs : List Value) {b t0 : Nat} {cs : List Value} (hi : L[i]? = some (.blk b t0 cs)) (h : ∀ w', Mem S w0 w' (L.set i (.blk b t0 vs)) → ∀ a, Fr a N (putE env (dstAt c k) undef) → From P c K Q (k + 1) a w')
    (hv : vs.all Value.oneCell' = true := by rfl) (ho : cs.length = vs.length := by rfl) (hk : ssE P c N env k = some (dstAt c k, b, 0, vs.toArray, some vs.length) := by kernel_rfl) : ∀ a, Fr a N env → From P c K Q k a w := by
  intro a hF
  unfold ssE at hk
  split at hk
  · rename_i g0
    split at hk
    · rename_i g1 g2 g3 g4
      simp only [Option.some.injEq, Prod.mk.injEq] at hk
      obtain ⟨e1, rfl, rfl, rfl, e5⟩ := hk
      rw [e1] at g0 g2
      exact From_storeS_blk g0 hF g1 g2 rfl g3 g4 e5 (List.all_eq_true.1 hv) hM i hi ho (fun w' hM' _ a' _ hF' => h w' hM' a' hF')
    · cases hk
  · cases hk
end
section
variable {P : Program} {c : Code} {K : Act → World → Prop} {Q : Exit → Act → World → Prop} {N : FN} {env0 : Env} {wr : World} {a : Act}
theorem zdr (sp : Nat → Spec) (hF : Fr a N env0) (hops : ∀ i, i < (opsOf c).size → OpOK P c Q N env0 wr sp i)
    (h : ∀ a' w' (vs : Nat → Value), Kp wr w' → (∀ j, j < (opsOf c).size → (sp j).ok (vs j) w') → Fr a' N (valsE c sp vs (List.range (opsOf c).size) ++ restE c env0) → K a' w')
    (hk : kind c = .region true := by kernel_rfl) (hm : P.follows .mixedOrders = true := by kernel_rfl) (hd : dstsOk c = true := by kernel_rfl) (hpl : predsLt c = true := by kernel_rfl) (hkeys : keysOk env0 = true := by kernel_rfl)
    (hdn : (List.range (opsOf c).size).all (fun i => okd (dstAt c i) N) = true := by kernel_rfl) : W P c K Q a wr := W_draw hk hm sp hd hpl hF hkeys hdn hops h
theorem zdj (sp : Nat → Spec) (J : (Nat → Bool) → (Nat → Value) → World → Prop) (hF : Fr a N env0) (hdet : ∀ j v w w', (sp j).ok v w → (sp j).ok v w')
    (h0 : J (fun _ => false) (fun _ => undef) wr.drew) (hops : ∀ i, i < (opsOf c).size → OpOKJ P c Q N env0 sp J i)
    (h : ∀ a' w' (ls : Nat → Bool) (vs : Nat → Value), (∀ j, j < (opsOf c).size → ls j = true) → J ls vs w' → (∀ j, j < (opsOf c).size → (sp j).ok (vs j) w') → Fr a' N (valsE c sp vs (List.range (opsOf c).size) ++ restE c env0) → K a' w')
    (hk : kind c = .region true := by kernel_rfl) (hm : P.follows .mixedOrders = true := by kernel_rfl) (hd : dstsOk c = true := by kernel_rfl) (hpl : predsLt c = true := by kernel_rfl) (hkeys : keysOk env0 = true := by kernel_rfl)
    (hdn : (List.range (opsOf c).size).all (fun i => okd (dstAt c i) N) = true := by kernel_rfl) : W P c K Q a wr := W_drawJ hk hm sp J hd hpl hF hkeys hdn hdet h0 hops h
end
section
variable {P : Program} {c : Code} {K : Act → World → Prop} {Q : Exit → Act → World → Prop} {w w0 : World} {S : Nat → Prop} {L : List Res} {k : Nat} {N : FN} {env : Env} {a : Act}
theorem zAp (d : Nat) (x y : Operand) (t ty : TypeId) (hF : Fr a N env) {e size bytes : Nat} {z : Value} {A B : Option Addr} {n cap m cap' : Nat} {xs news : List Value}
    (hM : Mem S w0 w L) (i : Nat) (hL : L[i]? = some (.row e size A n cap xs)) (hsrc : (Res.rd B news).holds w)
    (hl : news.length = m * size) (h1 : ∀ u ∈ news, u.oneCell' = true) (hb : (n + m) * bytes ≤ 140737488355328) (hml : n + m ≤ maxLen)
    (h : ∀ A' c' w', Mem S w0 w' (L.set i (.row e size A' (n + m) c' (xs ++ news))) → Mem (Res.row e size A n cap xs).fp w w' [.row e size A' (n + m) c' (xs ++ news)] → ∀ a', a' = a.put (some d) (.slice A' (n + m) c') → Fr a' N (putE env (some d) (.slice A' (n + m) c')) → From P c K Q (k + 1) a' w')
    (hk : coreAt c k = some (some d, .call { callee := .builtin .append, args := #[x, y], argTypes := #[t, t] }, ty, none) := by kernel_rfl) (hd : okd (some d) N = true := by kernel_rfl) (ht : P.underlying t = some (.slice e) := by kernel_rfl)
    (hi : (P.info? e).map (fun i => (i.size, i.bytes, i.zero)) = some (size, bytes, some z) := by kernel_rfl) (hzs : Nat.beq z.cells.size size = true := by kernel_rfl) (hsz : Nat.blt 0 size = true := by kernel_rfl) (hx : ev env x = some (.slice A n cap) := by kernel_rfl) (hy : ev env y = some (.slice B m cap') := by kernel_rfl) : From P c K Q k a w :=
  From_append hk hF rfl hd rfl ht hi hzs hsz hx hy hM i hL hsrc hl h1 hb hml h
theorem zBs (d : Nat) (t : TypeId) (len : Nat) (ps : Array (Nat × Operand)) (ty : TypeId) (hF : Fr a N env) {e size : Nat} {zs : List Value} {vs : List (Nat × Value)} {cs : List Value} (hM : Mem S w0 w L)
    (h : ∀ b w', w0.heap.size ≤ b → w.heap.size ≤ b → Mem S w0 w' (L ++ [.row e size (some ⟨b, 0, none⟩) len len cs]) → Mem noS w w' [.row e size (some ⟨b, 0, none⟩) len len cs] →
      ∀ a', a' = a.put (some d) (.slice (some ⟨b, 0, none⟩) len len) → Fr a' N (putE env (some d) (.slice (some ⟨b, 0, none⟩) len len)) → From P c K Q (k + 1) a' w')
    (hk : coreAt c k = some (some d, .buildSlice t len ps, ty, none) := by kernel_rfl) (hd : okd (some d) N = true := by kernel_rfl) (ht : P.underlying t = some (.slice e) := by kernel_rfl)
    (hi : (P.info? e).map (fun i => (i.size, i.zero.map (·.cells.toList))) = some (size, some zs) := by kernel_rfl) (hp : parts env ps.toList = some vs := by kernel_rfl) (hsz : (Nat.ble 1 (len * size) && Nat.ble (len * size) 1000) = true := by kernel_rfl)
    (hfill : Instr.fill (fun i => some (i * size, size)) ((Array.range (len * size)).map (zs.toArray[· % zs.toArray.size]!)) vs = some cs.toArray := by kernel_rfl) (hl : Nat.beq cs.length (len * size) = true := by kernel_rfl) : From P c K Q k a w :=
  From_buildSlice hk hF rfl hd rfl ht hi hp hsz hfill hl hM h
theorem zMk (d : Nat) (t : TypeId) (x y : Operand) (ty : TypeId) (hF : Fr a N env) {e bytes : Nat} {z : Value} {n : Nat} {i : Int} (hb : bytes * n ≤ 140737488355328) (hl : n ≤ maxLen) (hM : Mem S w0 w L)
    (h : ∀ b w', w0.heap.size ≤ b → w.heap.size ≤ b → Mem S w0 w' (L ++ [.row e 1 (some ⟨b, 0, none⟩) n n (List.replicate n z)]) → Mem noS w w' [.row e 1 (some ⟨b, 0, none⟩) n n (List.replicate n z)] →
      ∀ a', a' = a.put (some d) (.slice (some ⟨b, 0, none⟩) n n) → Fr a' N (putE env (some d) (.slice (some ⟨b, 0, none⟩) n n)) → From P c K Q (k + 1) a' w')
    (hk : coreAt c k = some (some d, .makeSlice t x y, ty, none) := by kernel_rfl) (hd : okd (some d) N = true := by kernel_rfl) (hx : ev env x = some (.int .i64 i) := by kernel_rfl) (hy : ev env y = some (.int .i64 i) := by kernel_rfl) (hn : i = (n : Int) := by rfl) (ht : P.underlying t = some (.slice e) := by kernel_rfl)
    (hi : (P.info? e).map (fun i => (i.size, i.bytes, i.zero)) = some (1, bytes, some z) := by kernel_rfl) (hz : z.oneCell' = true := by rfl) : From P c K Q k a w :=
  From_make1 hk hF rfl hd rfl hx hy hn ht hi hz hb hl hM h
end
end Go.Mor

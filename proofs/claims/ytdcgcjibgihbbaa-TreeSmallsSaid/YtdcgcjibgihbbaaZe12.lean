/-
  Texts of the proof, part 12.
-/
import Derived.Test.YtdcgcjibgihbbaaZe11
import Derived.Test.YtdcgcjibgihbbaaChecked
import Derived.Test.YtdcgcjibgihbbaaRows
set_option maxRecDepth 10000
namespace Go.Proofs.Ytdcgcjibgihbbaa
open Go.Mor Go.ChangeShapes Go.WideShapes Go.ChangeAt Go.RowKit Go.Deep
theorem Try.own : ownKnob Try.prog.godebug = none := by kernel_rfl
theorem Try.laidOut : laidOutB Try.prog = true := by kernel_rfl
theorem list2 {α : Type} {cs : List α} (h : cs.length = 2) : ∃ c0 c1, cs = [c0, c1] := by
  match cs, h with
  | [c0, c1], _ => exact ⟨c0, c1, rfl⟩
theorem list3 {α : Type} {cs : List α} (h : cs.length = 3) : ∃ c0 c1 c2, cs = [c0, c1, c2] := by
  match cs, h with
  | [c0, c1, c2], _ => exact ⟨c0, c1, c2, rfl⟩
theorem list4 {α : Type} {cs : List α} (h : cs.length = 4) : ∃ c0 c1 c2 c3, cs = [c0, c1, c2, c3] := by
  match cs, h with
  | [c0, c1, c2, c3], _ => exact ⟨c0, c1, c2, c3, rfl⟩
theorem list5 {α : Type} {cs : List α} (h : cs.length = 5) : ∃ c0 c1 c2 c3 c4, cs = [c0, c1, c2, c3, c4] := by
  match cs, h with
  | [c0, c1, c2, c3, c4], _ => exact ⟨c0, c1, c2, c3, c4, rfl⟩
def Reach_ {H : Type} (t : TypeId) (d : DataW H) : Prop := ∀ n, n ∈ d.weights Try.prog t → n ≤ reachBytes
theorem len_ok {a k : Nat} (hk : 0 < k) (h : a * k ≤ reachBytes) : LenOk a := by
  have h1 : a * 1 ≤ a * k := Nat.mul_le_mul_left a hk
  have h2 := reachBytes_lt
  unfold LenOk
  omega
theorem weights_all {H : Type} {e : TypeId} {l : List (DataW H)} {d : DataW H} (h : d ∈ l) : ∀ n, n ∈ d.weights Try.prog e → n ∈ DataW.weightsAll Try.prog e l := by
  induction l with
  | nil => cases h
  | cons x l ih =>
    intro n hn
    unfold DataW.weightsAll
    rcases List.mem_cons.1 h with rfl | h
    · exact List.mem_append_left _ hn
    · exact List.mem_append_right _ (ih h n hn)
section
variable {H : Type} {enc : TypeId × Value → H} {w : World} {base : Nat} {spare : Nat → Bool} {held : Bool}
theorem i64_of {t : TypeId} (ht : Try.prog.underlying t = some (.int .i64)) {fuel : Nat} {v : Value} {x : DataW H × List MemPlace} (h : DataW.trod enc Try.prog w base spare held fuel t [v] = some x) : ∃ n, v = .int .i64 n ∧ In64 n := by
  obtain ⟨n, rfl, h1, h2⟩ := int_of ht h
  exact ⟨n, rfl, h1, h2⟩
theorem str_of {t : TypeId} (ht : Try.prog.underlying t = some .string) {fuel : Nat} {v : Value} {x : DataW H × List MemPlace} (h : DataW.trod enc Try.prog w base spare held fuel t [v] = some x) (hz : Reach_ t x.1) : ∃ s, v = .string s ∧ LenOk s.size := by
  obtain ⟨s, h1, h3, _⟩ := DataW.trod_string ht h
  simp at h1
  subst h3
  refine ⟨s, h1, len_ok (k := 1) Nat.one_pos ?_⟩
  have := hz s.data.toList.length (by simp [DataW.weights])
  rw [Nat.mul_one]
  simpa using this
theorem bool_of {t : TypeId} (ht : Try.prog.underlying t = some .bool) {fuel : Nat} {v : Value} {x : DataW H × List MemPlace} (h : DataW.trod enc Try.prog w base spare held fuel t [v] = some x) : ∃ b, v = .bool b := by
  obtain ⟨b, hb, _⟩ := DataW.trod_bool ht h
  simp at hb
  exact ⟨b, hb⟩
theorem fields_of3 {t : TypeId} {fs : Array Field} (hs : Try.prog.underlying t = some (.struct fs)) (hone : oneCellFields Try.prog fs = true) (hC : Try.prog.cellsOf t = fs.size) {fuel : Nat} {cs : List Value} {x : DataW H × List MemPlace}
    (h : DataW.trod enc Try.prog w base spare held fuel t cs = some x) (hz : Reach_ t x.1) :
    cs.length = fs.size ∧ ∃ n : Nat, n < fuel ∧ ∀ (i : Nat) (f : Field), fs[i]? = some f → ∃ (v : Value) (y : DataW H × List MemPlace), cs[i]? = some v ∧ DataW.trod enc Try.prog w base spare held n f.type [v] = some y ∧ Reach_ f.type y.1 := by
  obtain ⟨xs, n, hn, hxe, hlen, hxs, hf⟩ := DataW.trod_struct hs h
  rw [hC] at hlen
  refine ⟨hlen, n, by omega, fun i f hi => ?_⟩
  have hlt : i < fs.size := (Array.getElem?_eq_some_iff.1 hi).1
  obtain ⟨ho, hc1⟩ := hone_of hone i f hi
  have h1 := hf i f hi
  rw [ho, hc1, take1_drop cs i undef (by omega)] at h1
  rw [List.getElem?_eq_getElem (by omega : i < xs.length)] at h1
  refine ⟨cs[i]'(by omega), xs[i]'(by omega), List.getElem?_eq_getElem (by omega), ?_, fun m hm => hz m ?_⟩
  · rw [← h1]
    simp [List.getD, List.getElem?_eq_getElem (by omega : i < cs.length)]
  · subst hxe
    simp only [DataW.weights, hs]
    exact DataW.weights_mem_each (j := i) (by rw [List.getElem?_map]; simp [hi]) (by rw [List.getElem?_map, List.getElem?_eq_getElem (by omega)]; rfl) m hm
theorem open_elems3 {t e : TypeId} {k : Nat} (ht : Try.prog.underlying t = some (.slice e)) (hb : Try.prog.bytesOf e = k) (hk : 0 < k)
    {fuel : Nat} {v : Value} {x : DataW H × List MemPlace} (h : DataW.trod enc Try.prog w base spare held fuel t [v] = some x) (hz : Reach_ t x.1) :
    ∃ A len cap, v = .slice A len cap ∧ LenOk len ∧ len ≤ cap ∧ ∀ i, i < len → ∃ (ad : Addr) (cs : List Value) (n : Nat) (y : DataW H × List MemPlace), n < fuel ∧ A = some ad ∧ cs.length = Try.prog.cellsOf e ∧
      (∀ (j : Nat) (v : Value), cs[j]? = some v → w.cell? ((ad.add (i * Try.prog.cellsOf e)).add j) = some v) ∧ DataW.trod enc Try.prog w base spare held n e cs = some y ∧ Reach_ e y.1 := by
  rcases DataW.trod_slice ht h with ⟨hcs, _⟩ | ⟨a, len, cap, elems, rest, n, hn, hcs, hxe, _, hlc, _, hel, hx, _⟩
  · simp at hcs
    subst hcs
    exact ⟨none, 0, 0, rfl, by simp [LenOk], Nat.le_refl _, fun i hi => absurd hi (Nat.not_lt_zero _)⟩
  · simp at hcs
    subst hcs
    subst hxe
    have hw : ∀ m, m ∈ (elems.map (·.1)).length * 0 :: DataW.weightsAll Try.prog e (elems.map (·.1)) → m ≤ reachBytes := by
      intro m hm
      rcases List.mem_cons.1 hm with rfl | hm
      · omega
      · refine hz m ?_
        simp only [DataW.weights, ht]
        exact List.mem_cons_of_mem _ (List.mem_append_left _ hm)
    refine ⟨some a, len, cap, rfl, ?_, hlc, fun i hi => ?_⟩
    · have h1 := hz (((elems.map (·.1)).length + (rest.map (·.1)).length) * Try.prog.bytesOf e) (by simp only [DataW.weights, ht]; exact List.mem_cons_self)
      rw [hb, List.length_map, List.length_map, hel] at h1
      exact len_ok hk (Nat.le_trans (Nat.mul_le_mul_right k (Nat.le_add_right _ _)) h1)
    · have h1 := hx i hi
      rw [List.getElem?_eq_getElem (by omega : i < elems.length)] at h1
      cases hc : w.cells? base (a.add (i * Try.prog.cellsOf e)) (Try.prog.cellsOf e) with
      | none => rw [hc] at h1; cases h1
      | some cs =>
        rw [hc] at h1
        obtain ⟨_, hlen, hcell⟩ := World.cells?_some hc
        refine ⟨a, cs, n, elems[i]'(by omega), by omega, rfl, hlen, fun j v hj => ?_, h1, fun m hm => hw m (List.mem_cons_of_mem _ (weights_all (d := (elems[i]'(by omega)).1) ?_ m hm))⟩
        · rw [hcell j (by have := (List.getElem?_eq_some_iff.1 hj).1; omega)]
          exact hj
        · exact List.mem_map.2 ⟨elems[i]'(by omega), List.getElem_mem _, rfl⟩
theorem open_list {α : Type} {f : α → List Value} {p : α → Prop} {t e : TypeId} {k : Nat} {fs : Array Field} (ht : Try.prog.underlying t = some (.slice e)) (hs : Try.prog.underlying e = some (.struct fs)) (hone : oneCellFields Try.prog fs = true) (hC : Try.prog.cellsOf e = fs.size) (hb : Try.prog.bytesOf e = k) (hk : 0 < k)
    {fuel : Nat} {v : Value} {x : DataW H × List MemPlace} (h : DataW.trod enc Try.prog w base spare held fuel t [v] = some x) (hz : Reach_ t x.1)
    (hx : ∀ (n : Nat) (cs : List Value), n < fuel → cs.length = fs.size → (∀ (j : Nat) (g : Field), fs[j]? = some g → ∃ (v : Value) (y : DataW H × List MemPlace), cs[j]? = some v ∧ DataW.trod enc Try.prog w base spare held n g.type [v] = some y ∧ Reach_ g.type y.1) → ∃ a, f a = cs ∧ p a) :
    ∃ A l c, v = .slice A (List.length l) c ∧ LenOk l.length ∧ l.length ≤ c ∧ (Res.rds A fs.size (l.map f)).holds w ∧ ∀ a, a ∈ l → p a := by
  obtain ⟨A, len, cap, rfl, hl, hlc, hel⟩ := open_elems3 ht hb hk h hz
  have : ∀ i, i < len → ∃ a : α, p a ∧ ∃ ad : Addr, A = some ad ∧ ∀ (j : Nat) (v : Value), (f a)[j]? = some v → w.cell? ((ad.add (i * fs.size)).add j) = some v := by
    intro i hi
    obtain ⟨ad, cs, n, y, hn, hA, hlen, hc, htr, hy⟩ := hel i hi
    rw [hC] at hlen hc
    obtain ⟨_, n', hn', hf⟩ := fields_of3 hs hone hC htr hy
    obtain ⟨a, rfl, ha⟩ := hx n' cs (by omega) hlen hf
    exact ⟨a, ha, ad, hA, hc⟩
  obtain ⟨l, rfl, hp⟩ := list_of this
  refine ⟨A, l, cap, rfl, hl, hlc, fun i cs hi => ?_, fun a ha => ?_⟩
  · rw [List.getElem?_map] at hi
    obtain ⟨b, hb, rfl⟩ := Option.map_eq_some_iff.1 hi
    exact (hp i b hb).2
  · obtain ⟨i, hi⟩ := List.mem_iff_getElem?.1 ha
    exact (hp i a hi).1
theorem open_vals {α : Type} {f : α → Value} {p : α → Prop} {t e : TypeId} {k : Nat} (ht : Try.prog.underlying t = some (.slice e)) (hC : Try.prog.cellsOf e = 1) (hb : Try.prog.bytesOf e = k) (hk : 0 < k)
    {fuel : Nat} {v : Value} {x : DataW H × List MemPlace} (h : DataW.trod enc Try.prog w base spare held fuel t [v] = some x) (hz : Reach_ t x.1)
    (hx : ∀ (n : Nat) (c : Value) (y : DataW H × List MemPlace), DataW.trod enc Try.prog w base spare held n e [c] = some y → Reach_ e y.1 → ∃ a, f a = c ∧ p a) :
    ∃ A l c, v = .slice A (List.length l) c ∧ LenOk l.length ∧ l.length ≤ c ∧ (Res.rd A (l.map f)).holds w ∧ ∀ a, a ∈ l → p a := by
  obtain ⟨A, len, cap, rfl, hl, hlc, hel⟩ := open_elems3 ht hb hk h hz
  have : ∀ i, i < len → ∃ a : α, p a ∧ ∃ ad : Addr, A = some ad ∧ w.cell? (ad.add i) = some (f a) := by
    intro i hi
    obtain ⟨ad, cs, n, y, hn, hA, hlen, hc, htr, hy⟩ := hel i hi
    rw [hC] at hlen hc
    match cs, hlen with
    | [c0], _ =>
      obtain ⟨a, rfl, ha⟩ := hx n c0 y htr hy
      refine ⟨a, ha, ad, hA, ?_⟩
      have h0 := hc 0 _ rfl
      rw [Nat.mul_one] at h0
      simpa [Addr.add] using h0
  obtain ⟨l, rfl, hp⟩ := list_of this
  refine ⟨A, l, cap, rfl, hl, hlc, fun i v hi => ?_, fun a ha => ?_⟩
  · rw [List.getElem?_map, Option.map_eq_some_iff] at hi
    obtain ⟨b, hb, rfl⟩ := hi
    exact (hp i b hb).2
  · obtain ⟨i, hi⟩ := List.mem_iff_getElem?.1 ha
    exact (hp i a hi).1
theorem exsI_all {l : List MEx} (h : ∀ e, e ∈ l → exI e) : exsI l := by
  induction l with
  | nil => trivial
  | cons e r ih => exact ⟨h e (List.mem_cons_self ..), ih fun x hx => h x (List.mem_cons_of_mem _ hx)⟩
theorem stsI_all {l : List MSt} (h : ∀ e, e ∈ l → stI e) : stsI l := by
  induction l with
  | nil => trivial
  | cons e r ih => exact ⟨h e (List.mem_cons_self ..), ih fun x hx => h x (List.mem_cons_of_mem _ hx)⟩
theorem open_mexs : ∀ (fuel : Nat) {v : Value} {x : DataW H × List MemPlace}, DataW.trod enc Try.prog w base spare held fuel 46 [v] = some x → Reach_ 46 x.1 →
    ∃ A l c, v = .slice A (List.length l) c ∧ LenOk l.length ∧ (Res.rds A 4 (l.map MEx.cells)).holds w ∧ exsI l ∧ ∀ r, r ∈ exsRes l → r.holds w := by
  intro fuel
  induction fuel using Nat.strongRecOn with
  | ind fuel ih =>
    intro v x h hz
    obtain ⟨A, l, c, rfl, hl, _, hr, hp⟩ := open_list (f := MEx.cells) (p := fun e => exI e ∧ ∀ r, r ∈ exRes e → r.holds w) (k := 56) Try.underlying46 Try.underlying53 (by kernel_rfl) (by kernel_rfl) (by kernel_rfl) (by omega) h hz (fun n cs hn hln hf => by
      obtain ⟨c0, c1, c2, c3, rfl⟩ := list4 hln
      obtain ⟨_, _, e, g0, zg0⟩ := hf 0 _ rfl
      cases e
      obtain ⟨o, rfl, ho⟩ := i64_of Try.underlying3 g0
      obtain ⟨_, _, e, g1, zg1⟩ := hf 1 _ rfl
      cases e
      obtain ⟨m, rfl, hm⟩ := i64_of Try.underlying2 g1
      obtain ⟨_, _, e, g2, zg2⟩ := hf 2 _ rfl
      cases e
      obtain ⟨nm, rfl, hnm⟩ := str_of Try.underlying9 g2 zg2
      obtain ⟨_, _, e, g3, zg3⟩ := hf 3 _ rfl
      cases e
      obtain ⟨B, ks, d, rfl, h1, h2, h3, h4⟩ := ih n hn g3 zg3
      refine ⟨⟨o, m, nm, B, d, ks⟩, rfl, ⟨⟨ho, hm, hnm, h1⟩, h3⟩, fun r hr => ?_⟩
      rw [exRes_eq] at hr
      rcases List.mem_cons.1 hr with rfl | hr
      · exact h2
      · exact h4 r hr)
    exact ⟨A, l, c, rfl, hl, hr, exsI_all fun e he => (hp e he).1, exs_res_of (p := fun r => r.holds w) fun e he => (hp e he).2⟩
theorem open_msts : ∀ (fuel : Nat) {v : Value} {x : DataW H × List MemPlace}, DataW.trod enc Try.prog w base spare held fuel 43 [v] = some x → Reach_ 43 x.1 →
    ∃ A l c, v = .slice A (List.length l) c ∧ LenOk l.length ∧ (Res.rds A 5 (l.map MSt.cells)).holds w ∧ stsI l ∧ ∀ r, r ∈ stsRes l → r.holds w := by
  intro fuel
  induction fuel using Nat.strongRecOn with
  | ind fuel ih =>
    intro v x h hz
    obtain ⟨A, l, c, rfl, hl, _, hr, hp⟩ := open_list (f := MSt.cells) (p := fun e => stI e ∧ ∀ r, r ∈ stRes e → r.holds w) (k := 88) Try.underlying43 Try.underlying48 (by kernel_rfl) (by kernel_rfl) (by kernel_rfl) (by omega) h hz (fun n cs hn hln hf => by
      obtain ⟨c0, c1, c2, c3, c4, rfl⟩ := list5 hln
      obtain ⟨_, _, e, g0, zg0⟩ := hf 0 _ rfl
      cases e
      obtain ⟨o, rfl, ho⟩ := i64_of Try.underlying3 g0
      obtain ⟨_, _, e, g1, zg1⟩ := hf 1 _ rfl
      cases e
      obtain ⟨m, rfl, hm⟩ := i64_of Try.underlying2 g1
      obtain ⟨_, _, e, g2, zg2⟩ := hf 2 _ rfl
      cases e
      obtain ⟨eA, es, ec, rfl, e1, e2, e3, e4⟩ := open_mexs n g2 zg2
      obtain ⟨_, _, e, g3, zg3⟩ := hf 3 _ rfl
      cases e
      obtain ⟨bA, bs, bc, rfl, b1, b2, b3, b4⟩ := ih n hn g3 zg3
      obtain ⟨_, _, e, g4, zg4⟩ := hf 4 _ rfl
      cases e
      obtain ⟨lA, ls, lc, rfl, l1, l2, l3, l4⟩ := ih n hn g4 zg4
      refine ⟨⟨o, m, eA, ec, es, bA, bc, bs, lA, lc, ls⟩, rfl, ⟨⟨ho, hm, e1, b1, l1⟩, e3, b3, l3⟩, fun r hr => ?_⟩
      rw [stRes_eq] at hr
      rcases List.mem_cons.1 hr with rfl | hr
      · exact e2
      rcases List.mem_cons.1 hr with rfl | hr
      · exact b2
      rcases List.mem_cons.1 hr with rfl | hr
      · exact l2
      rcases List.mem_append.1 hr with hr | hr
      · exact e4 r hr
      rcases List.mem_append.1 hr with hr | hr
      · exact b4 r hr
      · exact l4 r hr)
    exact ⟨A, l, c, rfl, hl, hr, stsI_all fun e he => (hp e he).1, sts_res_of (p := fun r => r.holds w) fun e he => (hp e he).2⟩
end
end Go.Proofs.Ytdcgcjibgihbbaa
namespace Go.Proofs.Ytdcgcjibgihbbaa
open Go.Mor Go.ChangeShapes Go.WideShapes Go.ChangeAt Go.RowKit Go.Deep
section
variable {H : Type} {enc : TypeId × Value → H} {w : World} {base : Nat} {spare : Nat → Bool} {held : Bool}
abbrev Fld (enc : TypeId × Value → H) (w : World) (base : Nat) (spare : Nat → Bool) (held : Bool) (n : Nat) (cs : List Value) (j : Nat) (t : TypeId) : Prop := ∃ (v : Value) (y : DataW H × List MemPlace), cs[j]? = some v ∧ DataW.trod enc Try.prog w base spare held n t [v] = some y ∧ Reach_ t y.1
abbrev FnOk (w : World) (f : TFn) : Prop := f.In ∧ ∀ r, r ∈ f.parts → r.holds w
abbrev DatOk (w : World) (d : FDat) : Prop := (LenOk d.nm.size ∧ LenOk d.words.length ∧ LenOk d.refs.length ∧ ∀ r, r ∈ d.refs → In64 r.1 ∧ LenOk r.2.size) ∧ ∀ r, r ∈ d.parts → r.holds w
abbrev ModOk (w : World) (m : TMod) : Prop := m.In0 ∧ ∀ r, r ∈ m.parts → r.holds w
theorem fn_of {n : Nat} {cs : List Value} (hln : cs.length = 5) (f0 : Fld enc w base spare held n cs 0 9) (f1 : Fld enc w base spare held n cs 1 4) (f2 : Fld enc w base spare held n cs 2 3) (f3 : Fld enc w base spare held n cs 3 3) (f4 : Fld enc w base spare held n cs 4 43) : ∃ f : TFn, f.cells = cs ∧ FnOk w f := by
  obtain ⟨c0, c1, c2, c3, c4, rfl⟩ := list5 hln
  obtain ⟨_, _, e, g0, zg0⟩ := f0
  cases e
  obtain ⟨nm, rfl, hnm⟩ := str_of Try.underlying9 g0 zg0
  obtain ⟨_, _, e, g1, _⟩ := f1
  cases e
  obtain ⟨wk, rfl⟩ := bool_of Try.underlying4 g1
  obtain ⟨_, _, e, g2, _⟩ := f2
  cases e
  obtain ⟨pa, rfl, hpa⟩ := i64_of Try.underlying3 g2
  obtain ⟨_, _, e, g3, _⟩ := f3
  cases e
  obtain ⟨lo, rfl, hlo⟩ := i64_of Try.underlying3 g3
  obtain ⟨_, _, e, g4, zg4⟩ := f4
  cases e
  obtain ⟨A, l, c, rfl, h1, h2, h3, h4⟩ := open_msts n g4 zg4
  refine ⟨⟨nm, wk, pa, lo, A, c, l⟩, rfl, ⟨hnm, hpa, hlo, h1, h3⟩, fun r hr => ?_⟩
  have hr2 : r ∈ Res.rds A 5 (l.map MSt.cells) :: stsRes l := hr
  rcases List.mem_cons.1 hr2 with rfl | hr
  · exact h2
  · exact h4 r hr
theorem open_tfns {n : Nat} {v : Value} {x : DataW H × List MemPlace} (h : DataW.trod enc Try.prog w base spare held n 22 [v] = some x) (hz : Reach_ 22 x.1) :
    ∃ A l c, v = .slice A (List.length l) c ∧ LenOk l.length ∧ (Res.rds A 5 (l.map TFn.cells)).holds w ∧ ∀ f, f ∈ l → FnOk w f := by
  obtain ⟨A, l, c, rfl, hl, _, hr, hp⟩ := open_list (f := TFn.cells) (p := FnOk w) (k := 64) Try.underlying22 Try.underlying45 (by kernel_rfl) (by kernel_rfl) (by kernel_rfl) (by omega) h hz (fun n cs _ hln hf => fn_of hln (hf 0 _ rfl) (hf 1 _ rfl) (hf 2 _ rfl) (hf 3 _ rfl) (hf 4 _ rfl))
  exact ⟨A, l, c, rfl, hl, hr, hp⟩
theorem open_refs {n : Nat} {v : Value} {x : DataW H × List MemPlace} (h : DataW.trod enc Try.prog w base spare held n 57 [v] = some x) (hz : Reach_ 57 x.1) :
    ∃ A l c, v = .slice A (List.length l) c ∧ LenOk l.length ∧ (Res.rds A 2 (l.map refCells)).holds w ∧ ∀ r : Int × ByteArray, r ∈ l → In64 r.1 ∧ LenOk r.2.size := by
  obtain ⟨A, l, c, rfl, hl, _, hr, hp⟩ := open_list (f := refCells) (p := fun r => In64 r.1 ∧ LenOk r.2.size) (k := 24) Try.underlying57 Try.underlying96 (by kernel_rfl) (by kernel_rfl) (by kernel_rfl) (by omega) h hz (fun n cs _ hln hf => by
    obtain ⟨c0, c1, rfl⟩ := list2 hln
    obtain ⟨_, _, e, g0, _⟩ := hf 0 _ rfl
    cases e
    obtain ⟨o, rfl, ho⟩ := i64_of Try.underlying3 g0
    obtain ⟨_, _, e, g1, zg1⟩ := hf 1 _ rfl
    cases e
    obtain ⟨nm, rfl, hnm⟩ := str_of Try.underlying9 g1 zg1
    exact ⟨(o, nm), rfl, ho, hnm⟩)
  exact ⟨A, l, c, rfl, hl, hr, hp⟩
theorem open_dats {n : Nat} {v : Value} {x : DataW H × List MemPlace} (h : DataW.trod enc Try.prog w base spare held n 23 [v] = some x) (hz : Reach_ 23 x.1) :
    ∃ A l c, v = .slice A (List.length l) c ∧ LenOk l.length ∧ (Res.rds A 4 (l.map FDat.cells)).holds w ∧ ∀ d, d ∈ l → DatOk w d := by
  obtain ⟨A, l, c, rfl, hl, _, hr, hp⟩ := open_list (f := FDat.cells) (p := DatOk w) (k := 72) Try.underlying23 Try.underlying59 (by kernel_rfl) (by kernel_rfl) (by kernel_rfl) (by omega) h hz (fun n cs _ hln hf => by
    obtain ⟨c0, c1, c2, c3, rfl⟩ := list4 hln
    obtain ⟨_, _, e, g0, zg0⟩ := hf 0 _ rfl
    cases e
    obtain ⟨nm, rfl, hnm⟩ := str_of Try.underlying9 g0 zg0
    obtain ⟨_, _, e, g1, _⟩ := hf 1 _ rfl
    cases e
    obtain ⟨wk, rfl⟩ := bool_of Try.underlying4 g1
    obtain ⟨_, _, e, g2, zg2⟩ := hf 2 _ rfl
    cases e
    obtain ⟨wA, ws, wc, rfl, w1, _, w2, _⟩ := open_vals (f := Value.int .i64) (p := In64) (k := 8) Try.underlying56 (by kernel_rfl) (by kernel_rfl) (by omega) g2 zg2 (fun n c y hy _ => by
      obtain ⟨k, rfl, hk⟩ := i64_of Try.underlying2 hy
      exact ⟨k, rfl, hk⟩)
    obtain ⟨_, _, e, g3, zg3⟩ := hf 3 _ rfl
    cases e
    obtain ⟨rA, rs, rc, rfl, r1, r2, r3⟩ := open_refs g3 zg3
    refine ⟨⟨nm, wk, wA, wc, ws, rA, rc, rs⟩, rfl, ⟨hnm, w1, r1, r3⟩, fun r hr => ?_⟩
    simp only [FDat.parts, List.mem_cons, List.not_mem_nil, or_false] at hr
    rcases hr with rfl | rfl
    · exact w2
    · exact r2)
  exact ⟨A, l, c, rfl, hl, hr, hp⟩
theorem mod_of {n : Nat} {cs : List Value} (hln : cs.length = 3) (f0 : Fld enc w base spare held n cs 0 9) (f1 : Fld enc w base spare held n cs 1 22) (f2 : Fld enc w base spare held n cs 2 23) : ∃ m : TMod, m.cells = cs ∧ ModOk w m := by
  obtain ⟨c0, c1, c2, rfl⟩ := list3 hln
  obtain ⟨_, _, e, g0, zg0⟩ := f0
  cases e
  obtain ⟨nm, rfl, _⟩ := str_of Try.underlying9 g0 zg0
  obtain ⟨_, _, e, g1, zg1⟩ := f1
  cases e
  obtain ⟨fA, fs, fc, rfl, h1, h2, h3⟩ := open_tfns g1 zg1
  obtain ⟨_, _, e, g2, zg2⟩ := f2
  cases e
  obtain ⟨dA, ds, dc, rfl, d1, d2, d3⟩ := open_dats g2 zg2
  refine ⟨⟨nm, fA, fc, fs, dA, dc, ds⟩, rfl, ⟨h1, d1, fun f hf => (h3 f hf).1, fun d hd => (d3 d hd).1⟩, fun r hr => ?_⟩
  have hr2 : r ∈ Res.rds fA 5 (fs.map TFn.cells) :: .rds dA 4 (ds.map FDat.cells) :: (fs.flatMap TFn.parts ++ ds.flatMap FDat.parts) := hr
  rcases List.mem_cons.1 hr2 with rfl | hr
  · exact h2
  rcases List.mem_cons.1 hr with rfl | hr
  · exact d2
  rcases List.mem_append.1 hr with hr | hr
  · obtain ⟨f, hf, hr⟩ := List.mem_flatMap.1 hr
    exact (h3 f hf).2 r hr
  · obtain ⟨d, hd, hr⟩ := List.mem_flatMap.1 hr
    exact (d3 d hd).2 r hr
variable {r : Reach} {b0 : Nat} {v : Value} {d : DataW H} {p : List MemPlace}
theorem open_mod (hok : Value.okWide Try.prog w r b0 25 v) (h : DataW.Trod enc Try.prog w base spare held 25 v d p) (hz : Reach_ 25 d) :
    ∃ m : TMod, v = .agg m.cells.toArray ∧ m.In0 ∧ RO noS w (.all m.parts) := by
  obtain ⟨cs, rfl, _⟩ := okWide_struct Try.underlying25 hok
  obtain ⟨fuel, h⟩ := h
  obtain ⟨hl, n, _, hf⟩ := fields_of3 Try.underlying25 (by kernel_rfl) (by kernel_rfl) (cs := cs.toList) (by simpa [Value.cells] using h) hz
  obtain ⟨m, hm, h1, h2⟩ := mod_of (by simpa using hl) (hf 0 _ rfl) (hf 1 _ rfl) (hf 2 _ rfl)
  refine ⟨m, ?_, h1, RO.of h2⟩
  rw [hm]
end
end Go.Proofs.Ytdcgcjibgihbbaa
namespace Go.Mor
open Go.RowKit
section
variable {e f : MEx} {x y : MSt} {g h : TFn} {l1 l2 : List MEx} {m1 m2 : List MSt} {j : Nat}
theorem exCan_inj (h : exCan e = exCan f) : e.op = f.op ∧ e.n = f.n ∧ e.nm = f.nm ∧ e.kids.map exCan = f.kids.map exCan := by
  rw [exCan_eq, exCan_eq, exsCan_map, exsCan_map] at h
  injection h with h1 h2 h3 _ _ h4
  exact ⟨h1, h2, h3, h4⟩
theorem stCan_eq : stCan x = ⟨x.op, x.n, none, 0, x.exprs.map exCan, none, 0, x.body.map stCan, none, 0, x.els.map stCan⟩ := by
  cases x
  rw [stCan, exsCan_map, stsCan_map, stsCan_map]
theorem stCan_inj (h : stCan x = stCan y) : x.op = y.op ∧ x.n = y.n ∧ x.exprs.map exCan = y.exprs.map exCan ∧ x.body.map stCan = y.body.map stCan ∧ x.els.map stCan = y.els.map stCan := by
  rw [stCan_eq, stCan_eq] at h
  injection h with h1 h2 _ _ h3 _ _ h4 _ _ h5
  exact ⟨h1, h2, h3, h4, h5⟩
theorem fnCan_inj (h' : fnCan g = fnCan h) : g.nm = h.nm ∧ g.wk = h.wk ∧ g.pa = h.pa ∧ g.lo = h.lo ∧ g.body.map stCan = h.body.map stCan := by
  unfold fnCan at h'
  rw [stsCan_map, stsCan_map] at h'
  injection h' with h1 h2 h3 h4 _ _ h5
  exact ⟨h1, h2, h3, h4, h5⟩
theorem map_len {α β : Type} {k : α → β} {a b : List α} (h : a.map k = b.map k) : a.length = b.length := by
  have := congrArg List.length h
  rwa [List.length_map, List.length_map] at this
theorem map_at {α β : Type} {k : α → β} {a b : List α} {u v : α} (h : a.map k = b.map k) (hu : a[j]? = some u) (hv : b[j]? = some v) : k u = k v := by
  have := congrArg (fun l => l[j]?) h
  simp only [List.getElem?_map, hu, hv, Option.map_some] at this
  injection this
end
def SEOk (P : Program) (l1 : List MEx) : Prop := ∀ (l2 : List MEx) (A1 A2 : Option Addr) (c1 c2 : Nat) (T1 T2 : List Res) (w : World), l1.map exCan = l2.map exCan → RO noS w (.all T1) → RO noS w (.all T2) → SubEs T1 A1 l1 → SubEs T2 A2 l2 → exsI l2 → LenOk l2.length →
  Calls P 75 #[.slice A1 l1.length c1, .slice A2 l2.length c2] w (Ret fun v w' => v = .bool true ∧ Mem noS w w' [])
def SSOk (P : Program) (l1 : List MSt) : Prop := ∀ (l2 : List MSt) (A1 A2 : Option Addr) (c1 c2 : Nat) (T1 T2 : List Res) (w : World), l1.map stCan = l2.map stCan → RO noS w (.all T1) → RO noS w (.all T2) → SubXs T1 A1 l1 → SubXs T2 A2 l2 → stsI l2 → LenOk l2.length →
  Calls P 64 #[.slice A1 l1.length c1, .slice A2 l2.length c2] w (Ret fun v w' => v = .bool true ∧ Mem noS w w' [])
def RPlOk (P : Program) (e : MEx) : Prop := ∀ (T : List Res) (w : World), RO noS w (.all T) → SubE T e → exI e →
  Calls P 65 #[.agg e.cells.toArray] w (Ret fun v w' => v = .bool (plV e) ∧ Mem noS w w' [])
theorem smQ_n {f : TFn} (h : smQ f) : stsN f.body ≤ 12 := by
  obtain ⟨_, _, _, _, _, h4, _⟩ := h
  exact h4
end Go.Mor
namespace Go.Mor
open Go.RowKit
section
variable {w w0 : World} {S : Nat → Prop} {fs : List TFn} {m : TMod} {f : TFn} {L P Q : List Res} {r r' : Res} {i : Nat}
theorem own_fns (h : (Res.pk (fs.flatMap fnOwn)).holds w) : RO noS w (.all (fs.flatMap TFn.parts)) := RO.of fun r hr => by
  obtain ⟨f, hf, hr⟩ := List.mem_flatMap.1 hr
  exact fn_own (fun r hr => h.1 r (List.mem_flatMap.2 ⟨f, hf, hr⟩)) r hr
theorem small_mem (h : f ∈ smallT m) : f ∈ m.fns ∧ smQ f := by
  unfold smallT at h
  split at h
  · unfold smL at h
    obtain ⟨h1, h2⟩ := List.mem_filter.1 h
    exact ⟨List.mem_of_mem_take h1, by simpa using h2⟩
  · cases h
theorem small_len : (smallT m).length ≤ m.fns.length := by
  unfold smallT
  split
  · exact smL_len
  · exact Nat.zero_le _
theorem small_one (h : fs.map fnCan = (smallT m).map fnCan) (hf : fs[i]? = some f) : f.body.length = 1 := by
  obtain ⟨g, hg⟩ := get_of (l := smallT m) (i := i) (by have := map_len h; have := (List.getElem?_eq_some_iff.1 hf).1; omega)
  obtain ⟨_, _, _, _, e⟩ := fnCan_inj (map_at h hf hg)
  rw [map_len e]
  obtain ⟨x, _, hb, _⟩ := (small_mem (List.mem_of_getElem? hg)).2
  rw [hb]
  rfl
theorem Mem.sub (h : Mem S w0 w L) (hs : P.Sublist L) : Mem S w0 w P :=
  ⟨h.os, h.tape, h.output, h.size, h.kept, fun s hx => h.own s (hs.subset hx), h.apart.sublist hs⟩
theorem Mem.pkSub (h : Mem S w0 w (L ++ [.pk Q])) (hs : P.Sublist Q) : Mem S w0 w (L ++ [.pk P]) := by
  have h1 : Mem S w0 w (.pk Q :: L) := h.perm (by simp)
  have h2 := (h1.unpack.sub (P := P ++ L) (List.Sublist.append_right hs L)).pack
  exact h2.perm (by simpa using (List.perm_append_comm (l₁ := [Res.pk P]) (l₂ := L)))
theorem Mem.pkOut (h : Mem S w0 w (L ++ [.pk (P ++ r :: Q)])) : Mem S w0 w (L ++ [.pk (P ++ Q), r]) := by
  have h1 : Mem S w0 w (.pk (P ++ r :: Q) :: L) := h.perm (by simp)
  have h2 : Mem S w0 w ((P ++ Q) ++ (r :: L)) := h1.unpack.perm (by
    rw [List.append_assoc, List.append_assoc]
    exact List.Perm.append_left P (by rw [List.cons_append]; exact List.perm_middle.symm))
  exact h2.pack.perm (by
    refine List.Perm.trans ?_ (List.perm_append_comm (l₁ := [.pk (P ++ Q), r]) (l₂ := L))
    exact List.Perm.refl _)
theorem Mem.pkIn (h : Mem S w0 w (L ++ [.pk (P ++ Q), r])) : Mem S w0 w (L ++ [.pk (P ++ r :: Q)]) := by
  have h1 : Mem S w0 w (.pk (P ++ Q) :: (r :: L)) := h.perm (by simpa using (List.perm_append_comm (l₁ := L) (l₂ := [Res.pk (P ++ Q), r])))
  have h2 : Mem S w0 w ((P ++ r :: Q) ++ L) := h1.unpack.perm (by
    rw [List.append_assoc, List.append_assoc]
    exact List.Perm.append_left P (by rw [List.cons_append]; exact List.perm_middle))
  exact h2.pack.perm (by simpa using (List.perm_append_comm (l₁ := [Res.pk (P ++ r :: Q)]) (l₂ := L)))
abbrev rowS (f : TFn) : Res := .row 48 5 f.A f.body.length f.c (f.body.flatMap MSt.cells)
abbrev rowT (f : TFn) : Res := .row 48 5 f.A f.body.length f.c ((f.body.flatMap MSt.cells).set (0 * 5) (.int .i64 77))
theorem rows_sub : (fs.map rowS).Sublist (fs.flatMap fnOwn) := by
  induction fs with
  | nil => exact List.Sublist.slnil
  | cons f l ih =>
    rw [List.map_cons, List.flatMap_cons]
    have : fnOwn f = rowS f :: stsOwn f.body := rfl
    rw [this, List.cons_append]
    exact (ih.trans (List.sublist_append_right _ _)).cons_cons _
def rows77 (fs : List TFn) (i : Nat) : List Res := (fs.take i).map rowT ++ (fs.drop i).map rowS
theorem rows77_zero : rows77 fs 0 = fs.map rowS := by simp [rows77]
theorem rows77_at (h : fs[i]? = some f) : rows77 fs i = (fs.take i).map rowT ++ rowS f :: (fs.drop (i + 1)).map rowS := by
  obtain ⟨hlt, he⟩ := List.getElem?_eq_some_iff.1 h
  unfold rows77
  rw [List.drop_eq_getElem_cons hlt, he, List.map_cons]
theorem rows77_succ (h : fs[i]? = some f) : rows77 fs (i + 1) = (fs.take i).map rowT ++ rowT f :: (fs.drop (i + 1)).map rowS := by
  unfold rows77
  rw [List.take_add_one, h, List.map_append, List.append_assoc]
  rfl
end
end Go.Mor
namespace Go.Proofs.Ytdcgcjibgihbbaa
open Go.Mor
theorem rsameE_c (l1 : List MEx) (ih : ∀ k, k ∈ l1 → SEOk Try.prog k.kids) (l2 : List MEx) (A1 A2 : Option Addr) (c1 c2 : Nat) (T1 T2 : List Res) (w : World) (hc : l1.map exCan = l2.map exCan) (hT1 : RO noS w (.all T1)) (hT2 : RO noS w (.all T2)) (hsT1 : SubEs T1 A1 l1) (hsT2 : SubEs T2 A2 l2) (hI : exsI l2) (hll : LenOk l2.length) :
    Calls Try.prog 75 #[(.slice A1 l1.length c1), (.slice A2 l2.length c2)] w (Ret fun v w' => v = .bool true ∧ Mem noS w w' []) := by
 have hle := map_len hc
 unfold LenOk at hll
 refine zen 68 [(.slice A1 l1.length c1), (.slice A2 l2.length c2)] Try.func75 ?_
 have hM := Mem.init w
 refine zsp <| zsq <| zsr <| zpn 4 <| zcm (((l1.length : Nat) : Int) != ((l2.length : Nat) : Int)) fun B1 hB1 => ?_
 obtain rfl : B1 = false := by
   have hkn : ¬ ((((l1.length : Nat) : Int) : Int) ≠ ((l2.length : Nat) : Int)) := by omega
   first | exact hB1.trans (decide_eq_true hkn) | exact hB1.trans (decide_eq_false hkn) | exact hB1.trans (beq_iff_eq.2 hkn) | exact hB1.trans (bne_iff_ne.2 hkn) | exact hB1.trans (Bool.eq_false_iff.2 (fun e => hkn (beq_iff_eq.1 e))) | exact hB1.trans (Bool.eq_false_iff.2 (fun e => hkn (bne_iff_ne.1 e)))
 clear hB1
 refine zfe <| zcF <| zsk <| zsq <| zsp <| zbk 0 ?_
 intro aC fr
 refine zlp (fun n_ a_ w_ => ∃ (j : Nat), n_ = l1.length - j ∧ Fr a_ 68 [(0, (.slice A1 l1.length c1)), (1, (.slice A2 l2.length c2)), (5, (nV j))] ∧ Mem noS w w_ [] ∧ (j ≤ l1.length)) (n := _) ⟨0, rfl, fr.kp [0, 1, 5], hM, Nat.zero_le _⟩ ?_
 clear fr aC hM; rintro n aC w4 ⟨j, rfl, fr, M5, hj⟩
 revert aC
 refine zsq <| zsp <| zcD (((j : Int) : Int) < ((l1.length : Nat) : Int)) (fun c8 => ?_) (fun c8 => ?_)
 refine zsk <| zsq <| zbk 1 <| zsq ?_
 obtain ⟨a, ha⟩ := get_of (l := l1) (i := j) (by omega)
 obtain ⟨b, hb⟩ := get_of (l := l2) (i := j) (by omega)
 have ham := List.mem_of_getElem? ha
 have hbm := List.mem_of_getElem? hb
 have hbI := exsI_mem hI hbm
 obtain ⟨e1, e2, e3, e4⟩ := exCan_inj (map_at hc ha hb)
 obtain ⟨ad9, rfl⟩ := rds_some (M5.ro (hT1.sub hsT1.1)) (cs := a.cells) (i := j) (by rw [List.getElem?_map, ha]; rfl)
 obtain ⟨ad10, rfl⟩ := rds_some (M5.ro (hT2.sub hsT2.1)) (cs := b.cells) (i := j) (by rw [List.getElem?_map, hb]; rfl)
 obtain ⟨B11, hB11⟩ : ∃ B : Bool, B = (b.op != b.op) := ⟨_, rfl⟩
 obtain rfl : B11 = false := by
   have hkn : ¬ ((b.op : Int) ≠ b.op) := by omega
   first | exact hB11.trans (decide_eq_true hkn) | exact hB11.trans (decide_eq_false hkn) | exact hB11.trans (beq_iff_eq.2 hkn) | exact hB11.trans (bne_iff_ne.2 hkn) | exact hB11.trans (Bool.eq_false_iff.2 (fun e => hkn (beq_iff_eq.1 e))) | exact hB11.trans (Bool.eq_false_iff.2 (fun e => hkn (bne_iff_ne.1 e)))
 obtain ⟨B12, hB12⟩ : ∃ B : Bool, B = (b.n != b.n) := ⟨_, rfl⟩
 obtain rfl : B12 = false := by
   have hkn : ¬ ((b.n : Int) ≠ b.n) := by omega
   first | exact hB12.trans (decide_eq_true hkn) | exact hB12.trans (decide_eq_false hkn) | exact hB12.trans (beq_iff_eq.2 hkn) | exact hB12.trans (bne_iff_ne.2 hkn) | exact hB12.trans (Bool.eq_false_iff.2 (fun e => hkn (beq_iff_eq.1 e))) | exact hB12.trans (Bool.eq_false_iff.2 (fun e => hkn (bne_iff_ne.1 e)))
 obtain ⟨B13, hB13⟩ : ∃ B : Bool, B = (!((b.nm : ByteArray).toList == (b.nm : ByteArray).toList)) := ⟨_, rfl⟩
 obtain rfl : B13 = false := by rw [hB13]; simp
 refine zkp [(0, (.slice (some ad9) l1.length c1)), (1, (.slice (some ad10) l2.length c2)), (5, (nV j))] ?_
 intro aC fr
 refine zdt 48 (N := 68) (env0 := [(0, (.slice (some ad9) l1.length c1)), (1, (.slice (some ad10) l2.length c2)), (5, (nV j))]) (specAt [.det (.slice (some ad9) l1.length c1), .det (nV j), .det (.pointer (some ((ad9 : Addr).add (((j : Int)).toNat * 4)))), .det (.pointer (some ((ad9 : Addr).add (((j : Int)).toNat * 4)))), .det (.int .i64 b.op), .det (.slice (some ad10) l2.length c2), .det (nV j), .det (.pointer (some ((ad10 : Addr).add (((j : Int)).toNat * 4)))), .det (.pointer (some ((ad10 : Addr).add (((j : Int)).toNat * 4)))), .det (.int .i64 b.op), .det (.bool false), .det (.bool false), .det (.slice (some ad9) l1.length c1), .det (nV j), .det (.pointer (some ((ad9 : Addr).add (((j : Int)).toNat * 4)))), .det (.pointer (some (((ad9 : Addr).add (((j : Int)).toNat * 4)).add 1))), .det (.int .i64 b.n), .det (.slice (some ad10) l2.length c2), .det (nV j), .det (.pointer (some ((ad10 : Addr).add (((j : Int)).toNat * 4)))), .det (.pointer (some (((ad10 : Addr).add (((j : Int)).toNat * 4)).add 1))), .det (.int .i64 b.n), .det (.bool false), .det (.bool false), .det (.bool false), .det (.slice (some ad9) l1.length c1), .det (nV j), .det (.pointer (some ((ad9 : Addr).add (((j : Int)).toNat * 4)))), .det (.pointer (some (((ad9 : Addr).add (((j : Int)).toNat * 4)).add 2))), .det (.string b.nm), .det (.slice (some ad10) l2.length c2), .det (nV j), .det (.pointer (some ((ad10 : Addr).add (((j : Int)).toNat * 4)))), .det (.pointer (some (((ad10 : Addr).add (((j : Int)).toNat * 4)).add 2))), .det (.string b.nm), .det (.bool false), .det (.bool false), .det (.bool false), .det (.slice (some ad9) l1.length c1), .det (nV j), .det (.pointer (some ((ad9 : Addr).add (((j : Int)).toNat * 4)))), .det (.pointer (some (((ad9 : Addr).add (((j : Int)).toNat * 4)).add 3))), .det (.slice a.A a.kids.length a.c), .det (.slice (some ad10) l2.length c2), .det (nV j), .det (.pointer (some ((ad10 : Addr).add (((j : Int)).toNat * 4)))), .det (.pointer (some (((ad10 : Addr).add (((j : Int)).toNat * 4)).add 3))), .det (.slice b.A b.kids.length b.c)]) fr (la (la (la (la (la (la (la (la (la (la (la (la (la (la (la (la (la (la (la (la (la (la (la (la (la (la (la (la (la (la (la (la (la (la (la (la (la (la (la (la (la (la (la (la (la (la (la (la lz dP) dP) (dI ad9 l1.length 4 (j : Int))) dP) (dL ((ad9 : Addr).add (((j : Int)).toNat * 4)) (.int .i64 b.op) fun w_ hK => (rds_get ((M5.then_ hK).ro (hT1.sub hsT1.1)) rfl (i := j) (cs := a.cells) (by rw [List.getElem?_map, ha]; rfl) 0 _ (by rw [← e1]; rfl)))) dP) dP) (dI ad10 l2.length 4 (j : Int))) dP) (dL ((ad10 : Addr).add (((j : Int)).toNat * 4)) (.int .i64 b.op) fun w_ hK => (rds_get ((M5.then_ hK).ro (hT2.sub hsT2.1)) rfl (i := j) (cs := b.cells) (by rw [List.getElem?_map, hb]; rfl) 0 _ (rfl)))) (dC (b.op != b.op) hB11)) dP) dP) dP) (dI ad9 l1.length 4 (j : Int))) dP) (dL (((ad9 : Addr).add (((j : Int)).toNat * 4)).add 1) (.int .i64 b.n) fun w_ hK => (rds_get ((M5.then_ hK).ro (hT1.sub hsT1.1)) rfl (i := j) (cs := a.cells) (by rw [List.getElem?_map, ha]; rfl) 1 _ (by rw [← e2]; rfl)))) dP) dP) (dI ad10 l2.length 4 (j : Int))) dP) (dL (((ad10 : Addr).add (((j : Int)).toNat * 4)).add 1) (.int .i64 b.n) fun w_ hK => (rds_get ((M5.then_ hK).ro (hT2.sub hsT2.1)) rfl (i := j) (cs := b.cells) (by rw [List.getElem?_map, hb]; rfl) 1 _ (rfl)))) (dC (b.n != b.n) hB12)) dP) dP) dP) dP) (dI ad9 l1.length 4 (j : Int))) dP) (dL (((ad9 : Addr).add (((j : Int)).toNat * 4)).add 2) (.string b.nm) fun w_ hK => (rds_get ((M5.then_ hK).ro (hT1.sub hsT1.1)) rfl (i := j) (cs := a.cells) (by rw [List.getElem?_map, ha]; rfl) 2 _ (by rw [← e3]; rfl)))) dP) dP) (dI ad10 l2.length 4 (j : Int))) dP) (dL (((ad10 : Addr).add (((j : Int)).toNat * 4)).add 2) (.string b.nm) fun w_ hK => (rds_get ((M5.then_ hK).ro (hT2.sub hsT2.1)) rfl (i := j) (cs := b.cells) (by rw [List.getElem?_map, hb]; rfl) 2 _ (rfl)))) (dPe hB13)) dP) dP) dP) dP) (dI ad9 l1.length 4 (j : Int))) dP) (dL (((ad9 : Addr).add (((j : Int)).toNat * 4)).add 3) (.slice a.A a.kids.length a.c) fun w_ hK => (rds_get ((M5.then_ hK).ro (hT1.sub hsT1.1)) rfl (i := j) (cs := a.cells) (by rw [List.getElem?_map, ha]; rfl) 3 _ (rfl)))) dP) dP) (dI ad10 l2.length 4 (j : Int))) dP) (dL (((ad10 : Addr).add (((j : Int)).toNat * 4)).add 3) (.slice b.A b.kids.length b.c) fun w_ hK => (rds_get ((M5.then_ hK).ro (hT2.sub hsT2.1)) rfl (i := j) (cs := b.cells) (by rw [List.getElem?_map, hb]; rfl) 3 _ (rfl)))) ?_
 intro aC w18 vs hK hv fr
 revert aC; refine zkp [(0, (.slice (some ad9) l1.length c1)), (1, (.slice (some ad10) l2.length c2)), (5, (nV j)), (54, (.bool false)), (59, (.slice a.A a.kids.length a.c)), (64, (.slice b.A b.kids.length b.c))] ?_
 have M19 := M5.then_ hK
 clear hK hv fr aC M5; clear vs
 refine zcl (ih a ham b.kids a.A b.A a.c b.c T1 T2 w18 e4 (hT1.at_ M19) (hT2.at_ M19) (hsT1.2 a ham).kids (hsT2.2 b hbm).kids hbI.kids hbI.own.kids) ?_
 rintro _ w20 ⟨rfl, M21x⟩
 have M21 := M19.cl M21x
 refine zpn 2 <| zfe <| zcF <| zsk <| zrg <| zpn 1 <| zar ((j : Int) + 1) <| zpn 1 <| zfe ?_
 intro aC fr
 exact ⟨l1.length - (j + 1), by omega, j + 1, rfl, fr.kp [0, 1, 5], M21, by omega⟩
 refine zex 0 <| zbh <| zsp <| zre <| zo1 (.bool true) ?_
 exact ⟨rfl, M5⟩
theorem rsameE_step (l1 : List MEx) (ih : ∀ k, k ∈ l1 → SEOk Try.prog k.kids) : SEOk Try.prog l1 := fun l2 A1 A2 c1 c2 T1 T2 w hc h1 h2 s1 s2 hI hll => rsameE_c l1 ih l2 A1 A2 c1 c2 T1 T2 w hc h1 h2 s1 s2 hI hll
theorem rsameE_x (e : MEx) : SEOk Try.prog e.kids := MEx.ind (p := fun e => SEOk Try.prog e.kids) (fun e h => rsameE_step e.kids h) e
theorem rsameE_all (l : List MEx) : SEOk Try.prog l := rsameE_step l (fun x _ => rsameE_x x)
set_option maxHeartbeats 2000000 in
theorem rsameS_c (l1 : List MSt) (ih : ∀ k, k ∈ l1 → SSOk Try.prog k.body ∧ SSOk Try.prog k.els) (l2 : List MSt) (A1 A2 : Option Addr) (c1 c2 : Nat) (T1 T2 : List Res) (w : World) (hc : l1.map stCan = l2.map stCan) (hT1 : RO noS w (.all T1)) (hT2 : RO noS w (.all T2)) (hsT1 : SubXs T1 A1 l1) (hsT2 : SubXs T2 A2 l2) (hI : stsI l2) (hll : LenOk l2.length) :
    Calls Try.prog 64 #[(.slice A1 l1.length c1), (.slice A2 l2.length c2)] w (Ret fun v w' => v = .bool true ∧ Mem noS w w' []) := by
 have hle := map_len hc
 unfold LenOk at hll
 refine zen 83 [(.slice A1 l1.length c1), (.slice A2 l2.length c2)] Try.func64 ?_
 have hM := Mem.init w
 refine zsp <| zsq <| zsr <| zpn 4 <| zcm (((l1.length : Nat) : Int) != ((l2.length : Nat) : Int)) fun B1 hB1 => ?_
 obtain rfl : B1 = false := by
   have hkn : ¬ ((((l1.length : Nat) : Int) : Int) ≠ ((l2.length : Nat) : Int)) := by omega
   first | exact hB1.trans (decide_eq_true hkn) | exact hB1.trans (decide_eq_false hkn) | exact hB1.trans (beq_iff_eq.2 hkn) | exact hB1.trans (bne_iff_ne.2 hkn) | exact hB1.trans (Bool.eq_false_iff.2 (fun e => hkn (beq_iff_eq.1 e))) | exact hB1.trans (Bool.eq_false_iff.2 (fun e => hkn (bne_iff_ne.1 e)))
 clear hB1
 refine zfe <| zcF <| zsk <| zsq <| zsp <| zbk 0 ?_
 intro aC fr
 refine zlp (fun n_ a_ w_ => ∃ (j : Nat), n_ = l1.length - j ∧ Fr a_ 83 [(0, (.slice A1 l1.length c1)), (1, (.slice A2 l2.length c2)), (5, (nV j))] ∧ Mem noS w w_ [] ∧ (j ≤ l1.length)) (n := _) ⟨0, rfl, fr.kp [0, 1, 5], hM, Nat.zero_le _⟩ ?_
 clear fr aC hM; rintro n aC w4 ⟨j, rfl, fr, M5, hj⟩
 revert aC
 refine zsq <| zsp <| zcD (((j : Int) : Int) < ((l1.length : Nat) : Int)) (fun c8 => ?_) (fun c8 => ?_)
 refine zsk <| zsq <| zbk 1 <| zsq ?_
 obtain ⟨a, ha⟩ := get_of (l := l1) (i := j) (by omega)
 obtain ⟨b, hb⟩ := get_of (l := l2) (i := j) (by omega)
 have ham := List.mem_of_getElem? ha
 have hbm := List.mem_of_getElem? hb
 have hbI := stsI_mem hI hbm
 obtain ⟨e1, e2, e3, e4, e5⟩ := stCan_inj (map_at hc ha hb)
 obtain ⟨ad9, rfl⟩ := rds_some (M5.ro (hT1.sub hsT1.1)) (cs := a.cells) (i := j) (by rw [List.getElem?_map, ha]; rfl)
 obtain ⟨ad10, rfl⟩ := rds_some (M5.ro (hT2.sub hsT2.1)) (cs := b.cells) (i := j) (by rw [List.getElem?_map, hb]; rfl)
 obtain ⟨B11, hB11⟩ : ∃ B : Bool, B = (b.op != b.op) := ⟨_, rfl⟩
 obtain rfl : B11 = false := by
   have hkn : ¬ ((b.op : Int) ≠ b.op) := by omega
   first | exact hB11.trans (decide_eq_true hkn) | exact hB11.trans (decide_eq_false hkn) | exact hB11.trans (beq_iff_eq.2 hkn) | exact hB11.trans (bne_iff_ne.2 hkn) | exact hB11.trans (Bool.eq_false_iff.2 (fun e => hkn (beq_iff_eq.1 e))) | exact hB11.trans (Bool.eq_false_iff.2 (fun e => hkn (bne_iff_ne.1 e)))
 obtain ⟨B12, hB12⟩ : ∃ B : Bool, B = (b.n != b.n) := ⟨_, rfl⟩
 obtain rfl : B12 = false := by
   have hkn : ¬ ((b.n : Int) ≠ b.n) := by omega
   first | exact hB12.trans (decide_eq_true hkn) | exact hB12.trans (decide_eq_false hkn) | exact hB12.trans (beq_iff_eq.2 hkn) | exact hB12.trans (bne_iff_ne.2 hkn) | exact hB12.trans (Bool.eq_false_iff.2 (fun e => hkn (beq_iff_eq.1 e))) | exact hB12.trans (Bool.eq_false_iff.2 (fun e => hkn (bne_iff_ne.1 e)))
 refine zkp [(0, (.slice (some ad9) l1.length c1)), (1, (.slice (some ad10) l2.length c2)), (5, (nV j))] ?_
 intro aC fr
 refine zdt 63 (N := 83) (env0 := [(0, (.slice (some ad9) l1.length c1)), (1, (.slice (some ad10) l2.length c2)), (5, (nV j))]) (specAt [.det (.slice (some ad9) l1.length c1), .det (nV j), .det (.pointer (some ((ad9 : Addr).add (((j : Int)).toNat * 5)))), .det (.pointer (some ((ad9 : Addr).add (((j : Int)).toNat * 5)))), .det (.int .i64 b.op), .det (.slice (some ad10) l2.length c2), .det (nV j), .det (.pointer (some ((ad10 : Addr).add (((j : Int)).toNat * 5)))), .det (.pointer (some ((ad10 : Addr).add (((j : Int)).toNat * 5)))), .det (.int .i64 b.op), .det (.bool false), .det (.bool false), .det (.slice (some ad9) l1.length c1), .det (nV j), .det (.pointer (some ((ad9 : Addr).add (((j : Int)).toNat * 5)))), .det (.pointer (some (((ad9 : Addr).add (((j : Int)).toNat * 5)).add 1))), .det (.int .i64 b.n), .det (.slice (some ad10) l2.length c2), .det (nV j), .det (.pointer (some ((ad10 : Addr).add (((j : Int)).toNat * 5)))), .det (.pointer (some (((ad10 : Addr).add (((j : Int)).toNat * 5)).add 1))), .det (.int .i64 b.n), .det (.bool false), .det (.bool false), .det (.bool false), .det (.slice (some ad9) l1.length c1), .det (nV j), .det (.pointer (some ((ad9 : Addr).add (((j : Int)).toNat * 5)))), .det (.pointer (some (((ad9 : Addr).add (((j : Int)).toNat * 5)).add 2))), .det (.slice a.eA a.exprs.length a.ec), .det (.slice (some ad10) l2.length c2), .det (nV j), .det (.pointer (some ((ad10 : Addr).add (((j : Int)).toNat * 5)))), .det (.pointer (some (((ad10 : Addr).add (((j : Int)).toNat * 5)).add 2))), .det (.slice b.eA b.exprs.length b.ec), .det (.bool true), .det (.bool false), .det (.bool false), .det (.bool false), .det (.slice (some ad9) l1.length c1), .det (nV j), .det (.pointer (some ((ad9 : Addr).add (((j : Int)).toNat * 5)))), .det (.pointer (some (((ad9 : Addr).add (((j : Int)).toNat * 5)).add 3))), .det (.slice a.bA a.body.length a.bc), .det (.slice (some ad10) l2.length c2), .det (nV j), .det (.pointer (some ((ad10 : Addr).add (((j : Int)).toNat * 5)))), .det (.pointer (some (((ad10 : Addr).add (((j : Int)).toNat * 5)).add 3))), .det (.slice b.bA b.body.length b.bc), .det (.bool true), .det (.bool false), .det (.bool false), .det (.bool false), .det (.slice (some ad9) l1.length c1), .det (nV j), .det (.pointer (some ((ad9 : Addr).add (((j : Int)).toNat * 5)))), .det (.pointer (some (((ad9 : Addr).add (((j : Int)).toNat * 5)).add 4))), .det (.slice a.lA a.els.length a.lc), .det (.slice (some ad10) l2.length c2), .det (nV j), .det (.pointer (some ((ad10 : Addr).add (((j : Int)).toNat * 5)))), .det (.pointer (some (((ad10 : Addr).add (((j : Int)).toNat * 5)).add 4))), .det (.slice b.lA b.els.length b.lc)]) fr (la (la (la (la (la (la (la (la (la (la (la (la (la (la (la (la (la (la (la (la (la (la (la (la (la (la (la (la (la (la (la (la (la (la (la (la (la (la (la (la (la (la (la (la (la (la (la (la (la (la (la (la (la (la (la (la (la (la (la (la (la (la (la lz dP) dP) (dI ad9 l1.length 5 (j : Int))) dP) (dL ((ad9 : Addr).add (((j : Int)).toNat * 5)) (.int .i64 b.op) fun w_ hK => (rds_get ((M5.then_ hK).ro (hT1.sub hsT1.1)) rfl (i := j) (cs := a.cells) (by rw [List.getElem?_map, ha]; rfl) 0 _ (by rw [← e1]; rfl)))) dP) dP) (dI ad10 l2.length 5 (j : Int))) dP) (dL ((ad10 : Addr).add (((j : Int)).toNat * 5)) (.int .i64 b.op) fun w_ hK => (rds_get ((M5.then_ hK).ro (hT2.sub hsT2.1)) rfl (i := j) (cs := b.cells) (by rw [List.getElem?_map, hb]; rfl) 0 _ (rfl)))) (dC (b.op != b.op) hB11)) dP) dP) dP) (dI ad9 l1.length 5 (j : Int))) dP) (dL (((ad9 : Addr).add (((j : Int)).toNat * 5)).add 1) (.int .i64 b.n) fun w_ hK => (rds_get ((M5.then_ hK).ro (hT1.sub hsT1.1)) rfl (i := j) (cs := a.cells) (by rw [List.getElem?_map, ha]; rfl) 1 _ (by rw [← e2]; rfl)))) dP) dP) (dI ad10 l2.length 5 (j : Int))) dP) (dL (((ad10 : Addr).add (((j : Int)).toNat * 5)).add 1) (.int .i64 b.n) fun w_ hK => (rds_get ((M5.then_ hK).ro (hT2.sub hsT2.1)) rfl (i := j) (cs := b.cells) (by rw [List.getElem?_map, hb]; rfl) 1 _ (rfl)))) (dC (b.n != b.n) hB12)) dP) dP) dP) dP) (dI ad9 l1.length 5 (j : Int))) dP) (dL (((ad9 : Addr).add (((j : Int)).toNat * 5)).add 2) (.slice a.eA a.exprs.length a.ec) fun w_ hK => (rds_get ((M5.then_ hK).ro (hT1.sub hsT1.1)) rfl (i := j) (cs := a.cells) (by rw [List.getElem?_map, ha]; rfl) 2 _ (rfl)))) dP) dP) (dI ad10 l2.length 5 (j : Int))) dP) (dL (((ad10 : Addr).add (((j : Int)).toNat * 5)).add 2) (.slice b.eA b.exprs.length b.ec) fun w_ hK => (rds_get ((M5.then_ hK).ro (hT2.sub hsT2.1)) rfl (i := j) (cs := b.cells) (by rw [List.getElem?_map, hb]; rfl) 2 _ (rfl)))) (dD (fun w_ hK => rsameE_all a.exprs b.exprs a.eA b.eA a.ec b.ec T1 T2 w_ e3 (hT1.at_ (M5.then_ hK)) (hT2.at_ (M5.then_ hK)) (hsT1.2 a ham).exprs (hsT2.2 b hbm).exprs hbI.exprs hbI.own.exprs) rfl)) dP) dP) dP) dP) dP) (dI ad9 l1.length 5 (j : Int))) dP) (dL (((ad9 : Addr).add (((j : Int)).toNat * 5)).add 3) (.slice a.bA a.body.length a.bc) fun w_ hK => (rds_get ((M5.then_ hK).ro (hT1.sub hsT1.1)) rfl (i := j) (cs := a.cells) (by rw [List.getElem?_map, ha]; rfl) 3 _ (rfl)))) dP) dP) (dI ad10 l2.length 5 (j : Int))) dP) (dL (((ad10 : Addr).add (((j : Int)).toNat * 5)).add 3) (.slice b.bA b.body.length b.bc) fun w_ hK => (rds_get ((M5.then_ hK).ro (hT2.sub hsT2.1)) rfl (i := j) (cs := b.cells) (by rw [List.getElem?_map, hb]; rfl) 3 _ (rfl)))) (dD (fun w_ hK => (ih a ham).1 b.body a.bA b.bA a.bc b.bc T1 T2 w_ e4 (hT1.at_ (M5.then_ hK)) (hT2.at_ (M5.then_ hK)) (hsT1.2 a ham).body (hsT2.2 b hbm).body hbI.body hbI.own.body) rfl)) dP) dP) dP) dP) dP) (dI ad9 l1.length 5 (j : Int))) dP) (dL (((ad9 : Addr).add (((j : Int)).toNat * 5)).add 4) (.slice a.lA a.els.length a.lc) fun w_ hK => (rds_get ((M5.then_ hK).ro (hT1.sub hsT1.1)) rfl (i := j) (cs := a.cells) (by rw [List.getElem?_map, ha]; rfl) 4 _ (rfl)))) dP) dP) (dI ad10 l2.length 5 (j : Int))) dP) (dL (((ad10 : Addr).add (((j : Int)).toNat * 5)).add 4) (.slice b.lA b.els.length b.lc) fun w_ hK => (rds_get ((M5.then_ hK).ro (hT2.sub hsT2.1)) rfl (i := j) (cs := b.cells) (by rw [List.getElem?_map, hb]; rfl) 4 _ (rfl)))) ?_
 intro aC w17 vs hK hv fr
 revert aC; refine zkp [(0, (.slice (some ad9) l1.length c1)), (1, (.slice (some ad10) l2.length c2)), (5, (nV j)), (69, (.bool false)), (74, (.slice a.lA a.els.length a.lc)), (79, (.slice b.lA b.els.length b.lc))] ?_
 have M18 := M5.then_ hK
 clear hK hv fr aC M5; clear vs
 refine zcl ((ih a ham).2 b.els a.lA b.lA a.lc b.lc T1 T2 w17 e5 (hT1.at_ M18) (hT2.at_ M18) (hsT1.2 a ham).els (hsT2.2 b hbm).els hbI.els hbI.own.els) ?_
 rintro _ w19 ⟨rfl, M20x⟩
 have M20 := M18.cl M20x
 refine zpn 2 <| zfe <| zcF <| zsk <| zrg <| zpn 1 <| zar ((j : Int) + 1) <| zpn 1 <| zfe ?_
 intro aC fr
 exact ⟨l1.length - (j + 1), by omega, j + 1, rfl, fr.kp [0, 1, 5], M20, by omega⟩
 refine zex 0 <| zbh <| zsp <| zre <| zo1 (.bool true) ?_
 exact ⟨rfl, M5⟩
theorem rsameS_step (l1 : List MSt) (ih : ∀ k, k ∈ l1 → SSOk Try.prog k.body ∧ SSOk Try.prog k.els) : SSOk Try.prog l1 := fun l2 A1 A2 c1 c2 T1 T2 w hc h1 h2 s1 s2 hI hll => rsameS_c l1 ih l2 A1 A2 c1 c2 T1 T2 w hc h1 h2 s1 s2 hI hll
theorem rsameS_x (x : MSt) : SSOk Try.prog x.body ∧ SSOk Try.prog x.els := MSt.ind (p := fun x => SSOk Try.prog x.body ∧ SSOk Try.prog x.els) (fun e hb hl => ⟨rsameS_step e.body hb, rsameS_step e.els hl⟩) x
theorem rsameS_all (l : List MSt) : SSOk Try.prog l := rsameS_step l (fun x _ => rsameS_x x)
theorem rsameF_d (f g : TFn) (T1 T2 : List Res) (w : World) (hc : fnCan f = fnCan g) (hT1 : RO noS w (.all T1)) (hT2 : RO noS w (.all T2)) (hs1 : SubXs T1 f.A f.body) (hs2 : SubXs T2 g.A g.body) (hI : g.In) :
    Calls Try.prog 44 #[(.agg #[(.string f.nm), (.bool f.wk), (.int .i64 f.pa), (.int .i64 f.lo), (.slice f.A f.body.length f.c)]), (.agg #[(.string g.nm), (.bool g.wk), (.int .i64 g.pa), (.int .i64 g.lo), (.slice g.A g.body.length g.c)])] w (Ret fun v w' => v = .bool (decide (True)) ∧ Mem noS w w' []) := by
 obtain ⟨e1, e2, e3, e4, e5⟩ := fnCan_inj hc
 refine zen 38 [(.agg #[(.string f.nm), (.bool f.wk), (.int .i64 f.pa), (.int .i64 f.lo), (.slice f.A f.body.length f.c)]), (.agg #[(.string g.nm), (.bool g.wk), (.int .i64 g.pa), (.int .i64 g.lo), (.slice g.A g.body.length g.c)])] Try.func44 ?_
 have hM := Mem.init w
 refine zsr <| zbx hM 45 (.agg #[(.string f.nm), (.bool f.wk), (.int .i64 f.pa), (.int .i64 f.lo), (.slice f.A f.body.length f.c)]) [(.string f.nm), (.bool f.wk), (.int .i64 f.pa), (.int .i64 f.lo), (.slice f.A f.body.length f.c)] fun b1 w2 hb1 M3 => ?_
 replace M3 := M3.nf
 clear hM
 refine zbx M3 45 (.agg #[(.string g.nm), (.bool g.wk), (.int .i64 g.pa), (.int .i64 g.lo), (.slice g.A g.body.length g.c)]) [(.string g.nm), (.bool g.wk), (.int .i64 g.pa), (.int .i64 g.lo), (.slice g.A g.body.length g.c)] fun b4 w5 hb4 M6 => ?_
 replace M6 := M6.nf
 refine zpn 1 <| zfe <| zsr <| zpn 1 <| zld ⟨b1, 0, none⟩ (.string f.nm) (blk_cell (M6.get 0 rfl) rfl) <| zpn 1 <| zld ⟨b4, 0, none⟩ (.string g.nm) (blk_cell (M6.get 1 rfl) rfl) <| zpn 2 ?_
 obtain ⟨B7, hB7⟩ : ∃ B : Bool, B = ((f.nm : ByteArray).toList == (g.nm : ByteArray).toList) := ⟨_, rfl⟩
 refine zkp [(2, (pT b1 0)), (3, (pT b4 0)), (10, (.bool ((f.nm : ByteArray).toList == (g.nm : ByteArray).toList)))] ?_
 rw [← hB7]
 have iB7 : B7 = true ↔ ((f.nm).toList = (g.nm).toList) := by rw [hB7]; simp only [beq_iff_eq]
 clear hB7
 intro aC fr
 refine zpk 1 7 [11] fr (news := [(11, (cond B7 (pT b1 1) undef))]) (by cases B7 <;> kernel_rfl) ?_
 intro aC fr
 refine From_either (B := B7) (d := (some 12)) (.bool f.wk) fr (by cases B7 <;> kernel_rfl) (fun hB hh => ?_) ?_
 cases B7 <;> first | (exact absurd hB (by decide)) | skip
 have c7 : ((f.nm).toList = (g.nm).toList) := iB7.1 rfl
 exact From_ld (some 12) ⟨b1, 1, none⟩ fr (by kernel_rfl) (.bool f.wk) (blk_cell (M6.get 0 rfl) rfl) hh
 intro aC fr
 refine zpk 1 9 [13] fr (news := [(13, (cond B7 (pT b4 1) undef))]) (by cases B7 <;> kernel_rfl) ?_
 intro aC fr
 refine From_either (B := B7) (d := (some 14)) (.bool g.wk) fr (by cases B7 <;> kernel_rfl) (fun hB hh => ?_) ?_
 cases B7 <;> first | (exact absurd hB (by decide)) | skip
 have c7 : ((f.nm).toList = (g.nm).toList) := iB7.1 rfl
 exact From_ld (some 14) ⟨b4, 1, none⟩ fr (by kernel_rfl) (.bool g.wk) (blk_cell (M6.get 1 rfl) rfl) hh
 intro aC fr
 refine zpk 3 13 [16, 17] fr (news := [(16, (.bool (B7 && (f.wk == g.wk)))), (17, (.bool (B7 && (f.wk == g.wk))))]) (by cases B7 <;> kernel_rfl) ?_
 intro aC fr
 obtain ⟨B20, hB20⟩ : ∃ B : Bool, B = (B7 && (f.wk == g.wk)) := ⟨_, rfl⟩
 revert aC
 refine zkp [(2, (pT b1 0)), (3, (pT b4 0)), (17, (.bool (B7 && (f.wk == g.wk))))] ?_
 rw [← hB20]
 have iB20 : B20 = true ↔ (((f.nm).toList = (g.nm).toList) ∧ (f.wk = g.wk)) := by rw [hB20]; simp only [Bool.and_eq_true, beq_iff_eq, iB7]
 clear hB20
 intro aC fr
 refine zpk 1 14 [18] fr (news := [(18, (cond B20 (pT b1 2) undef))]) (by cases B20 <;> kernel_rfl) ?_
 intro aC fr
 refine From_either (B := B20) (d := (some 19)) (.int .i64 f.pa) fr (by cases B20 <;> kernel_rfl) (fun hB hh => ?_) ?_
 cases B20 <;> first | (exact absurd hB (by decide)) | skip
 have c20 : (((f.nm).toList = (g.nm).toList) ∧ (f.wk = g.wk)) := iB20.1 rfl
 exact From_ld (some 19) ⟨b1, 2, none⟩ fr (by kernel_rfl) (.int .i64 f.pa) (blk_cell (M6.get 0 rfl) rfl) hh
 intro aC fr
 refine zpk 1 16 [20] fr (news := [(20, (cond B20 (pT b4 2) undef))]) (by cases B20 <;> kernel_rfl) ?_
 intro aC fr
 refine From_either (B := B20) (d := (some 21)) (.int .i64 g.pa) fr (by cases B20 <;> kernel_rfl) (fun hB hh => ?_) ?_
 cases B20 <;> first | (exact absurd hB (by decide)) | skip
 have c20 : (((f.nm).toList = (g.nm).toList) ∧ (f.wk = g.wk)) := iB20.1 rfl
 exact From_ld (some 21) ⟨b4, 2, none⟩ fr (by kernel_rfl) (.int .i64 g.pa) (blk_cell (M6.get 1 rfl) rfl) hh
 intro aC fr
 refine zpk 3 20 [23, 24] fr (news := [(23, (.bool (B20 && ((f.pa : Int) == g.pa)))), (24, (.bool (B20 && ((f.pa : Int) == g.pa))))]) (by cases B20 <;> kernel_rfl) ?_
 intro aC fr
 obtain ⟨B33, hB33⟩ : ∃ B : Bool, B = (B20 && ((f.pa : Int) == g.pa)) := ⟨_, rfl⟩
 revert aC
 refine zkp [(2, (pT b1 0)), (3, (pT b4 0)), (24, (.bool (B20 && ((f.pa : Int) == g.pa))))] ?_
 rw [← hB33]
 have iB33 : B33 = true ↔ ((((f.nm).toList = (g.nm).toList) ∧ (f.wk = g.wk)) ∧ ((f.pa : Int) = g.pa)) := by rw [hB33]; simp only [Bool.and_eq_true, beq_iff_eq, iB20]
 clear hB33
 intro aC fr
 refine zpk 1 21 [25] fr (news := [(25, (cond B33 (pT b1 3) undef))]) (by cases B33 <;> kernel_rfl) ?_
 intro aC fr
 refine From_either (B := B33) (d := (some 26)) (.int .i64 f.lo) fr (by cases B33 <;> kernel_rfl) (fun hB hh => ?_) ?_
 cases B33 <;> first | (exact absurd hB (by decide)) | skip
 have c33 : ((((f.nm).toList = (g.nm).toList) ∧ (f.wk = g.wk)) ∧ ((f.pa : Int) = g.pa)) := iB33.1 rfl
 exact From_ld (some 26) ⟨b1, 3, none⟩ fr (by kernel_rfl) (.int .i64 f.lo) (blk_cell (M6.get 0 rfl) rfl) hh
 intro aC fr
 refine zpk 1 23 [27] fr (news := [(27, (cond B33 (pT b4 3) undef))]) (by cases B33 <;> kernel_rfl) ?_
 intro aC fr
 refine From_either (B := B33) (d := (some 28)) (.int .i64 g.lo) fr (by cases B33 <;> kernel_rfl) (fun hB hh => ?_) ?_
 cases B33 <;> first | (exact absurd hB (by decide)) | skip
 have c33 : ((((f.nm).toList = (g.nm).toList) ∧ (f.wk = g.wk)) ∧ ((f.pa : Int) = g.pa)) := iB33.1 rfl
 exact From_ld (some 28) ⟨b4, 3, none⟩ fr (by kernel_rfl) (.int .i64 g.lo) (blk_cell (M6.get 1 rfl) rfl) hh
 intro aC fr
 refine zpk 3 27 [30, 31] fr (news := [(30, (.bool (B33 && ((f.lo : Int) == g.lo)))), (31, (.bool (B33 && ((f.lo : Int) == g.lo))))]) (by cases B33 <;> kernel_rfl) ?_
 intro aC fr
 obtain ⟨B46, hB46⟩ : ∃ B : Bool, B = (B33 && ((f.lo : Int) == g.lo)) := ⟨_, rfl⟩
 revert aC
 refine zkp [(2, (pT b1 0)), (3, (pT b4 0)), (31, (.bool (B33 && ((f.lo : Int) == g.lo))))] ?_
 rw [← hB46]
 have iB46 : B46 = true ↔ (((((f.nm).toList = (g.nm).toList) ∧ (f.wk = g.wk)) ∧ ((f.pa : Int) = g.pa)) ∧ ((f.lo : Int) = g.lo)) := by rw [hB46]; simp only [Bool.and_eq_true, beq_iff_eq, iB33]
 clear hB46
 intro aC fr
 refine zpk 1 28 [32] fr (news := [(32, (cond B46 (pT b1 4) undef))]) (by cases B46 <;> kernel_rfl) ?_
 intro aC fr
 refine From_either (B := B46) (d := (some 33)) (.slice f.A f.body.length f.c) fr (by cases B46 <;> kernel_rfl) (fun hB hh => ?_) ?_
 cases B46 <;> first | (exact absurd hB (by decide)) | skip
 have c46 : (((((f.nm).toList = (g.nm).toList) ∧ (f.wk = g.wk)) ∧ ((f.pa : Int) = g.pa)) ∧ ((f.lo : Int) = g.lo)) := iB46.1 rfl
 exact From_ld (some 33) ⟨b1, 4, none⟩ fr (by kernel_rfl) (.slice f.A f.body.length f.c) (blk_cell (M6.get 0 rfl) rfl) hh
 intro aC fr
 refine zpk 1 30 [34] fr (news := [(34, (cond B46 (pT b4 4) undef))]) (by cases B46 <;> kernel_rfl) ?_
 intro aC fr
 refine From_either (B := B46) (d := (some 35)) (.slice g.A g.body.length g.c) fr (by cases B46 <;> kernel_rfl) (fun hB hh => ?_) ?_
 cases B46 <;> first | (exact absurd hB (by decide)) | skip
 have c46 : (((((f.nm).toList = (g.nm).toList) ∧ (f.wk = g.wk)) ∧ ((f.pa : Int) = g.pa)) ∧ ((f.lo : Int) = g.lo)) := iB46.1 rfl
 exact From_ld (some 35) ⟨b4, 4, none⟩ fr (by kernel_rfl) (.slice g.A g.body.length g.c) (blk_cell (M6.get 1 rfl) rfl) hh
 intro aC fr
 cases B46
 have c46 : ¬ (((((f.nm).toList = (g.nm).toList) ∧ (f.wk = g.wk)) ∧ ((f.pa : Int) = g.pa)) ∧ ((f.lo : Int) = g.lo)) := (fun h => Bool.noConfusion (iB46.2 h) : ¬ (((((f.nm).toList = (g.nm).toList) ∧ (f.wk = g.wk)) ∧ ((f.pa : Int) = g.pa)) ∧ ((f.lo : Int) = g.lo)))
 revert aC
 refine zpn 3 <| zfe <| zre <| zo1 (.bool false) ?_
 have hR : false = true ↔ False := by simp
 have M57 := M6.od [] 0
 exact ⟨bool_dec hR (⟨False.elim, fun _ => (c46 ⟨⟨⟨by rw [e1], e2⟩, e3⟩, e4⟩).elim⟩), M57⟩
 have c46 : (((((f.nm).toList = (g.nm).toList) ∧ (f.wk = g.wk)) ∧ ((f.pa : Int) = g.pa)) ∧ ((f.lo : Int) = g.lo)) := iB46.1 rfl
 revert aC
 refine zcl (rsameS_all f.body g.body f.A g.A f.c g.c T1 T2 w5 e5 (hT1.at_ M6) (hT2.at_ M6) hs1 hs2 hI.body hI.len) ?_
 rintro _ w58 ⟨rfl, M59x⟩
 have M59 := M6.cl M59x
 refine zpn 2 <| zfe <| zre <| zo1 (.bool true) ?_
 have hR : true = true ↔ True := by simp
 have M60 := M59.od [] 0
 exact ⟨bool_dec hR (⟨fun _ => trivial, fun _ => by first | trivial | omega⟩), M60⟩
theorem rsameF_c (f g : TFn) (T1 T2 : List Res) (w : World) (hc : fnCan f = fnCan g) (hT1 : RO noS w (.all T1)) (hT2 : RO noS w (.all T2)) (hs1 : SubXs T1 f.A f.body) (hs2 : SubXs T2 g.A g.body) (hI : g.In) : Calls Try.prog 44 #[(.agg #[(.string f.nm), (.bool f.wk), (.int .i64 f.pa), (.int .i64 f.lo), (.slice f.A f.body.length f.c)]), (.agg #[(.string g.nm), (.bool g.wk), (.int .i64 g.pa), (.int .i64 g.lo), (.slice g.A g.body.length g.c)])] w (Ret fun v w' => v = .bool true ∧ Mem noS w w' []) := by
  have h := rsameF_d f g T1 T2 w hc hT1 hT2 hs1 hs2 hI
  simpa using h
theorem rsameFs_c (l1 l2 : List TFn) (A1 A2 : Option Addr) (c1 c2 : Nat) (T1 T2 : List Res) (w : World) (hc : l1.map fnCan = l2.map fnCan) (hR1 : RO noS w (.rds A1 5 (l1.map TFn.cells))) (hR2 : RO noS w (.rds A2 5 (l2.map TFn.cells))) (hT1 : RO noS w (.all T1)) (hT2 : RO noS w (.all T2)) (hs1 : ∀ f, f ∈ l1 → SubXs T1 f.A f.body) (hs2 : ∀ f, f ∈ l2 → SubXs T2 f.A f.body) (hI : ∀ f, f ∈ l2 → f.In) (hll : l2.length ≤ 1000000) :
    Calls Try.prog 19 #[(.slice A1 l1.length c1), (.slice A2 l2.length c2)] w (Ret fun v w' => v = .bool true ∧ Mem noS w w' []) := by
 have hle := map_len hc
 refine zen 27 [(.slice A1 l1.length c1), (.slice A2 l2.length c2)] Try.func19 ?_
 have hM := Mem.init w
 refine zsp <| zsq <| zsr <| zpn 4 <| zcm (((l1.length : Nat) : Int) != ((l2.length : Nat) : Int)) fun B1 hB1 => ?_
 obtain rfl : B1 = false := by
   have hkn : ¬ ((((l1.length : Nat) : Int) : Int) ≠ ((l2.length : Nat) : Int)) := by omega
   first | exact hB1.trans (decide_eq_true hkn) | exact hB1.trans (decide_eq_false hkn) | exact hB1.trans (beq_iff_eq.2 hkn) | exact hB1.trans (bne_iff_ne.2 hkn) | exact hB1.trans (Bool.eq_false_iff.2 (fun e => hkn (beq_iff_eq.1 e))) | exact hB1.trans (Bool.eq_false_iff.2 (fun e => hkn (bne_iff_ne.1 e)))
 clear hB1
 refine zfe <| zcF <| zsk <| zsq <| zsp <| zbk 0 ?_
 intro aC fr
 refine zlp (fun n_ a_ w_ => ∃ (j : Nat), n_ = l1.length - j ∧ Fr a_ 27 [(0, (.slice A1 l1.length c1)), (1, (.slice A2 l2.length c2)), (5, (nV j))] ∧ Mem noS w w_ [] ∧ (j ≤ l1.length)) (n := _) ⟨0, rfl, fr.kp [0, 1, 5], hM, Nat.zero_le _⟩ ?_
 clear fr aC hM; rintro n aC w4 ⟨j, rfl, fr, M5, hj⟩
 revert aC
 refine zsq <| zsp <| zcD (((j : Int) : Int) < ((l1.length : Nat) : Int)) (fun c8 => ?_) (fun c8 => ?_)
 refine zsk <| zsq <| zbk 1 <| zsq ?_
 obtain ⟨a, ha⟩ := get_of (l := l1) (i := j) (by omega)
 obtain ⟨b, hb⟩ := get_of (l := l2) (i := j) (by omega)
 have ham := List.mem_of_getElem? ha
 have hbm := List.mem_of_getElem? hb
 obtain ⟨ad9, rfl⟩ := rds_some (M5.ro hR1) (cs := a.cells) (i := j) (by rw [List.getElem?_map, ha]; rfl)
 obtain ⟨ad10, rfl⟩ := rds_some (M5.ro hR2) (cs := b.cells) (i := j) (by rw [List.getElem?_map, hb]; rfl)
 refine zkp [(0, (.slice (some ad9) l1.length c1)), (1, (.slice (some ad10) l2.length c2)), (5, (nV j))] ?_
 intro aC fr
 refine zdt 8 (N := 27) (env0 := [(0, (.slice (some ad9) l1.length c1)), (1, (.slice (some ad10) l2.length c2)), (5, (nV j))]) (specAt [.det (.slice (some ad9) l1.length c1), .det (nV j), .det (.pointer (some ((ad9 : Addr).add (((j : Int)).toNat * 5)))), .det (.agg #[(.string a.nm), (.bool a.wk), (.int .i64 a.pa), (.int .i64 a.lo), (.slice a.A a.body.length a.c)]), .det (.slice (some ad10) l2.length c2), .det (nV j), .det (.pointer (some ((ad10 : Addr).add (((j : Int)).toNat * 5)))), .det (.agg #[(.string b.nm), (.bool b.wk), (.int .i64 b.pa), (.int .i64 b.lo), (.slice b.A b.body.length b.c)])]) fr (la (la (la (la (la (la (la (la lz dP) dP) (dI ad9 l1.length 5 (j : Int))) (dS ((ad9 : Addr).add (((j : Int)).toNat * 5)) [(.string a.nm), (.bool a.wk), (.int .i64 a.pa), (.int .i64 a.lo), (.slice a.A a.body.length a.c)] fun w_ hK => (rds_cells (i := j) ((M5.then_ hK).ro hR1) rfl (by rw [List.getElem?_map, ha]; rfl)))) dP) dP) (dI ad10 l2.length 5 (j : Int))) (dS ((ad10 : Addr).add (((j : Int)).toNat * 5)) [(.string b.nm), (.bool b.wk), (.int .i64 b.pa), (.int .i64 b.lo), (.slice b.A b.body.length b.c)] fun w_ hK => (rds_cells (i := j) ((M5.then_ hK).ro hR2) rfl (by rw [List.getElem?_map, hb]; rfl)))) ?_
 intro aC w15 vs hK hv fr
 revert aC; refine zkp [(0, (.slice (some ad9) l1.length c1)), (1, (.slice (some ad10) l2.length c2)), (5, (nV j)), (20, (.agg #[(.string a.nm), (.bool a.wk), (.int .i64 a.pa), (.int .i64 a.lo), (.slice a.A a.body.length a.c)])), (24, (.agg #[(.string b.nm), (.bool b.wk), (.int .i64 b.pa), (.int .i64 b.lo), (.slice b.A b.body.length b.c)]))] ?_
 have M16 := M5.then_ hK
 clear hK hv fr aC M5; clear vs
 refine zcl (rsameF_c a b T1 T2 w15 (map_at hc ha hb) (hT1.at_ M16) (hT2.at_ M16) (hs1 a ham) (hs2 b hbm) (hI b hbm)) ?_
 rintro _ w17 ⟨rfl, M18x⟩
 have M18 := M16.cl M18x
 refine zpn 1 <| zfe <| zcF <| zsk <| zrg <| zpn 1 <| zar ((j : Int) + 1) <| zpn 1 <| zfe ?_
 intro aC fr
 exact ⟨l1.length - (j + 1), by omega, j + 1, rfl, fr.kp [0, 1, 5], M18, by omega⟩
 refine zex 0 <| zbh <| zsp <| zre <| zo1 (.bool true) ?_
 exact ⟨rfl, M5⟩
end Go.Proofs.Ytdcgcjibgihbbaa
namespace Go.Mor
open Go.RowKit
def caseE (lo mo : Int) (bn bm : Bool) (sz k : Nat) : Prop := bn = true ∧ (bm = true ↔ sz ≠ 0) ∧ (bm = true → 1 ≤ sz ∧ sz ≤ 60) ∧ lo ≤ (k : Int) ∧ (k : Int) ≤ mo
section
variable {lo mo : Int} {bn bm : Bool} {sz k : Nat} {N : Prop}
theorem caseEF (hn : bn = true ↔ N) : caseE lo mo bn false sz k ↔ (N ∧ sz = 0 ∧ lo ≤ (k : Int) ∧ (k : Int) ≤ mo) := by
  unfold caseE
  rw [hn]
  simp only [Bool.false_eq_true, false_iff, ne_eq, Decidable.not_not, false_implies, true_and]
theorem caseET (hn : bn = true ↔ N) : caseE lo mo bn true sz k ↔ (N ∧ (1 ≤ sz ∧ sz ≤ 60) ∧ lo ≤ (k : Int) ∧ (k : Int) ≤ mo) := by
  unfold caseE
  rw [hn]
  simp only [true_iff, ne_eq, true_implies]
  constructor
  · rintro ⟨h1, h2, h3, h4, h5⟩; exact ⟨h1, h3, h4, h5⟩
  · rintro ⟨h1, h3, h4, h5⟩; exact ⟨h1, by omega, h3, h4, h5⟩
theorem rex_iff {nm : ByteArray} {x : Bool} {Q : Prop} {d : Int} (hx : (x = true) = (nm.size = 0)) (hs : Q ↔ caseE lo mo bn bm nm.size k) :
    ((((((¬ (bn = true)) ∨ (¬ (bm = (!x)))) ∨ ((bm = true) ∧ (¬ (nameQ nm)))) ∨ ((k : Int) < lo)) ∨ ((k : Int) > mo)) ∨ (d > 100)) ↔ ¬ (d ≤ 100 ∧ Q) := by
  rw [hs]
  constructor
  · rintro h ⟨hd, h1, h2, h3, h4, h5⟩
    rcases h with ((((h | h) | h) | h) | h) | h
    · exact h h1
    · have h6 : bm = true ↔ ¬ x = true := h2.trans (not_congr (by rw [hx]))
      exact h (by cases bm <;> cases x <;> simp at h6 ⊢)
    · exact h.2 (h3 h.1)
    · omega
    · omega
    · omega
  · intro h
    refine Classical.byContradiction fun hc => h ?_
    have a1 : bn = true := Classical.byContradiction fun e => hc (.inl (.inl (.inl (.inl (.inl e)))))
    have a2 : bm = (!x) := Classical.byContradiction fun e => hc (.inl (.inl (.inl (.inl (.inr e)))))
    have a3 : bm = true → nameQ nm := fun e => Classical.byContradiction fun e2 => hc (.inl (.inl (.inl (.inr ⟨e, e2⟩))))
    have a4 : ¬ (k : Int) < lo := fun e => hc (.inl (.inl (.inr e)))
    have a5 : ¬ (k : Int) > mo := fun e => hc (.inl (.inr e))
    have a6 : ¬ d > 100 := fun e => hc (.inr e)
    refine ⟨by omega, a1, ?_, a3, by omega, by omega⟩
    have h6 : (!x) = true ↔ ¬ x = true := by cases x <;> simp
    rw [a2, h6, hx]
theorem litT' : (true = true) ↔ True := by simp
theorem litF' : (false = true) ↔ False := by simp
end
def RExOk (P : Program) (e : MEx) : Prop := ∀ (lo d : Int) (T : List Res) (w : World), 0 ≤ d → d ≤ 1000 → RO noS w (.all T) → SubE T e → exI e →
  Calls P 80 #[.agg e.cells.toArray, .int .i64 lo, .int .i64 d] w (Ret fun v w' => v = .bool (exV lo d e) ∧ Mem noS w w' [])
def RStOk (P : Program) (l : List MSt) : Prop := ∀ (A : Option Addr) (c : Nat) (lo d lp : Int) (T : List Res) (w : World), 0 ≤ d → d ≤ 1000 → 0 ≤ lp → lp ≤ d → RO noS w (.all T) → SubXs T A l → stsI l → LenOk l.length →
  Calls P 51 #[.slice A l.length c, .int .i64 lo, .int .i64 d, .int .i64 lp] w (Ret fun v w' => v = .bool (stsV lo lp d l) ∧ Mem noS w w' [])
def RSxOk (P : Program) (x : MSt) : Prop := ∀ (lo d lp : Int) (T : List Res) (w : World), 0 ≤ d → d ≤ 1000 → 0 ≤ lp → lp ≤ d → RO noS w (.all T) → SubX T x → stI x →
  Calls P 69 #[.agg x.cells.toArray, .int .i64 lo, .int .i64 d, .int .i64 lp] w (Ret fun v w' => v = .bool (stV lo lp d x) ∧ Mem noS w w' [])
def caseS (le mo : Int) (bn bb bo : Bool) (ke kb kl : Nat) : Prop := bn = true ∧ (le ≤ (ke : Int) ∧ (ke : Int) ≤ mo) ∧ (bb = true ∨ kb = 0) ∧ (bo = true ∨ kl = 0)
section
variable {le mo d : Int} {bn bb bo : Bool} {ke kb kl : Nat} {N Q : Prop}
theorem caseS_FF (hn : bn = true ↔ N) : caseS le mo bn false false ke kb kl ↔ (N ∧ (le ≤ (ke : Int) ∧ (ke : Int) ≤ mo) ∧ kb = 0 ∧ kl = 0) := by unfold caseS; rw [hn]; simp
theorem caseS_TF (hn : bn = true ↔ N) : caseS le mo bn true false ke kb kl ↔ (N ∧ (le ≤ (ke : Int) ∧ (ke : Int) ≤ mo) ∧ kl = 0) := by unfold caseS; rw [hn]; simp
theorem caseS_TT (hn : bn = true ↔ N) : caseS le mo bn true true ke kb kl ↔ (N ∧ (le ≤ (ke : Int) ∧ (ke : Int) ≤ mo)) := by unfold caseS; rw [hn]; simp
theorem rst_iff (hs : Q ↔ caseS le mo bn bb bo ke kb kl) :
    ((((((¬ (bn = true)) ∨ ((ke : Int) < le)) ∨ ((ke : Int) > mo)) ∨ ((¬ (bb = true)) ∧ ((kb : Int) > 0))) ∨ ((¬ (bo = true)) ∧ ((kl : Int) > 0))) ∨ (d > 100)) ↔ ¬ (d ≤ 100 ∧ Q) := by
  rw [hs]
  unfold caseS
  cases bn <;> cases bb <;> cases bo <;> simp <;> omega
end
theorem ba_same {a b : ByteArray} : a.toList = b.toList ↔ a = b := by
  constructor
  · intro h
    rw [ByteArray.toList_eq, ByteArray.toList_eq] at h
    exact ba_ext h
  · intro h; rw [h]
section
variable {α κ : Type} {key : α → κ} {l : List α} {g f : α} {k j : Nat}
theorem nin_zero (c : κ) : c ∉ (l.take 0).map key := by simp
theorem nin_succ {c : κ} (h : c ∉ (l.take k).map key) (hg : l[k]? = some g) (hne : ¬ key g = c) : c ∉ (l.take (k + 1)).map key := by
  rw [List.take_add_one, hg, List.map_append, List.mem_append]
  rintro (h1 | h1)
  · exact h h1
  · simp at h1; exact hne h1.symm
theorem nin_no {c : κ} (hk : k < j) (hg : l[k]? = some g) (he : key g = c) : c ∈ (l.take j).map key := by
  refine List.mem_map.2 ⟨g, ?_, he⟩
  exact List.mem_of_getElem? (i := k) (by rw [List.getElem?_take_of_lt hk]; exact hg)
end
theorem Cnt.upto {most a b n : Int} (h : Cnt most 0 a n) (hab : a ≤ b) (hc : ¬ n ≤ most ∨ a = b) : Cnt most 0 b n := by
  unfold Cnt at *
  omega
theorem datQ_len {d : FDat} (h : datQ d) : d.refs.length ≤ d.words.length := by
  have hn : (d.refs.map (·.1)).Nodup := by
    refine List.pairwise_iff_getElem.2 fun i j hi hj hij he => ?_
    have hj' : j < d.refs.length := by simpa using hj
    obtain ⟨r, hr⟩ := get_of (l := d.refs) (i := j) hj'
    obtain ⟨r', hr'⟩ := get_of (l := d.refs) (i := i) (by omega)
    simp only [List.getElem_map] at he
    have he2 : r'.1 = r.1 := by
      rw [(List.getElem?_eq_some_iff.1 hr).2.symm, (List.getElem?_eq_some_iff.1 hr').2.symm]
      exact he
    exact (h.1 j r hr).2.2 (nin_no (key := fun r : Int × ByteArray => r.1) hij hr' he2)
  have hr : ∀ x, x ∈ d.refs.map (·.1) → 0 ≤ x ∧ x < (d.words.length : Int) := fun x hx => by
    obtain ⟨r, hr, rfl⟩ := List.mem_map.1 hx
    obtain ⟨i, hi⟩ := List.mem_iff_getElem?.1 hr
    exact (h.1 i r hi).2.1
  have := nodupT_le hn hr
  rw [List.length_map] at this
  exact this
end Go.Mor
namespace Go.Proofs.Ytdcgcjibgihbbaa
open Go.Mor
theorem rname_c (nm : ByteArray) (w : World) :
    Calls Try.prog 50 #[(.string nm)] w (Ret fun v w' => v = .bool (decide (nameQ nm)) ∧ Mem noS w w' []) := by
 refine zen 11 [(.string nm)] Try.func50 ?_
 have hM := Mem.init w
 refine zsp <| zsr <| zpn 4 ?_
 obtain ⟨B1, hB1⟩ : ∃ B : Bool, B = decide ((((nm).size : Int) : Int) ≥ 1) := ⟨_, rfl⟩
 refine zkp [(0, (.string nm)), (6, (.bool (decide ((((nm).size : Int) : Int) ≥ 1))))] ?_
 rw [← hB1]
 have iB1 : B1 = true ↔ ((((nm).size : Int) : Int) ≥ 1) := by rw [hB1]; simp only [decide_eq_true_eq]
 clear hB1
 intro aC fr
 refine zpk 5 9 [2, 10] fr (news := [(2, (.bool (B1 && decide ((((nm).size : Int) : Int) ≤ 60)))), (10, (.bool (B1 && decide ((((nm).size : Int) : Int) ≤ 60))))]) (by cases B1 <;> kernel_rfl) ?_
 intro aC fr
 revert aC
 refine zfe <| zre <| zo1 (.bool (B1 && decide ((((nm).size : Int) : Int) ≤ 60))) ?_
 have hR : (B1 && decide ((((nm).size : Int) : Int) ≤ 60)) = true ↔ (((((nm).size : Int) : Int) ≥ 1) ∧ ((((nm).size : Int) : Int) ≤ 60)) := by simp only [Bool.and_eq_true, decide_eq_true_eq, iB1]
 exact ⟨bool_dec hR (by unfold nameQ; omega), hM⟩
end Go.Proofs.Ytdcgcjibgihbbaa
namespace Go.Proofs.Ytdcgcjibgihbbaa
open Go.Mor
theorem rexv_c (e : MEx) (ih : ∀ k, k ∈ e.kids → RExOk Try.prog k) (lo d : Int) (T : List Res) (w : World) (hd0 : 0 ≤ d) (hd : d ≤ 1000) (hT : RO noS w (.all T)) (hs : SubE T e) (hI : exI e) :
    Calls Try.prog 80 #[(.agg #[(.int .i64 e.op), (.int .i64 e.n), (.string e.nm), (.slice e.A e.kids.length e.c)]), (.int .i64 lo), (.int .i64 d)] w (Ret fun v w' => v = .bool (exV lo d e) ∧ Mem noS w w' []) := by
 have hkl := hI.own.kids
 have hnl := hI.own.nm
 unfold LenOk at hkl hnl
 refine zen 136 [(.agg #[(.int .i64 e.op), (.int .i64 e.n), (.string e.nm), (.slice e.A e.kids.length e.c)]), (.int .i64 lo), (.int .i64 d)] Try.func80 ?_
 have hM := Mem.init w
 refine zsr <| zbx hM 53 (.agg #[(.int .i64 e.op), (.int .i64 e.n), (.string e.nm), (.slice e.A e.kids.length e.c)]) [(.int .i64 e.op), (.int .i64 e.n), (.string e.nm), (.slice e.A e.kids.length e.c)] fun b1 w2 hb1 M3 => ?_
 replace M3 := M3.nf
 clear hM
 refine zpn 1 <| zfe <| zsp <| zsq ?_
 obtain ⟨B4, hB4⟩ : ∃ B : Bool, B = (e.n == 0) := ⟨_, rfl⟩
 refine zkp [(1, (.int .i64 lo)), (2, (.int .i64 d)), (3, (pT b1 0)), (7, (.int .i64 0)), (8, (.int .i64 0))] ?_
 intro aC fr
 refine zdt 4 (N := 136) (env0 := [(1, (.int .i64 lo)), (2, (.int .i64 d)), (3, (pT b1 0)), (7, (.int .i64 0)), (8, (.int .i64 0))]) (specAt [.det (pT b1 1), .det (.int .i64 e.n), .det (.bool B4), .det (.bool false)]) fr (la (la (la (la lz dP) (dL ⟨b1, 1, none⟩ (.int .i64 e.n) fun w_ hK => (blk_cell ((M3.then_ hK).get 0 rfl) rfl))) (dC (e.n == 0) hB4)) dP) ?_
 intro aC w9 vs hK hv fr
 revert aC; refine zkp [(1, (.int .i64 lo)), (2, (.int .i64 d)), (3, (pT b1 0)), (7, (.int .i64 0)), (8, (.int .i64 0)), (9, (.bool false)), (14, (.bool B4))] ?_
 have M10 := M3.then_ hK
 clear hK hv fr aC M3; clear vs
 have iB4 : B4 = true ↔ ((e.n : Int) = 0) := by rw [hB4]; simp only [beq_iff_eq]
 clear hB4
 refine zpn 1 <| zfe <| zsq <| zsr <| zpn 1 <| zld ⟨b1, 0, none⟩ (.int .i64 e.op) (blk_cell (M10.get 0 rfl) rfl) <| zfe ?_
 intro aC fr
 refine W_cut (fun a_ w_ => ∃ (le : Int) (mo : Int) (bn : Bool) (bm : Bool), Fr a_ 136 [(1, (.int .i64 lo)), (2, (.int .i64 d)), (3, (pT b1 0)), (7, (.int .i64 le)), (8, (.int .i64 mo)), (9, (.bool bm)), (10, (.bool bn))] ∧ Mem noS w w_ [.blk b1 53 [(.int .i64 e.op), (.int .i64 e.n), (.string e.nm), (.slice e.A e.kids.length e.c)]] ∧ (esQ lo e.op e.n e.nm.size e.kids.length ↔ caseE le mo bn bm e.nm.size e.kids.length)) ?_ ?_
 clear fr aC M10; rintro aC w13 ⟨le, mo, bn, bm, fr, M14, hsh⟩
 revert aC
 refine zsq <| zsr <| zpn 3 ?_
 obtain ⟨B17, hB17⟩ : ∃ B : Bool, B = (!bn) := ⟨_, rfl⟩
 refine zkp [(1, (.int .i64 lo)), (2, (.int .i64 d)), (3, (pT b1 0)), (7, (.int .i64 le)), (8, (.int .i64 mo)), (9, (.bool bm)), (85, (.bool (!bn)))] ?_
 rw [← hB17]
 have iB17 : B17 = true ↔ (¬ (bn = true)) := by rw [hB17]; simp only [notT]
 clear hB17
 intro aC fr
 refine zpk 2 5 [86, 87] fr (news := [(86, (cond (!B17) (.bool bm) undef)), (87, (cond (!B17) (pT b1 2) undef))]) (by cases B17 <;> kernel_rfl) ?_
 intro aC fr
 refine From_either (B := (!B17)) (d := (some 88)) (.string e.nm) fr (by cases B17 <;> kernel_rfl) (fun hB hh => ?_) ?_
 cases B17 <;> first | (exact absurd hB (by decide)) | skip
 have c17 : ¬ (¬ (bn = true)) := (fun h => Bool.noConfusion (iB17.2 h) : ¬ (¬ (bn = true)))
 exact From_ld (some 88) ⟨b1, 2, none⟩ fr (by kernel_rfl) (.string e.nm) (blk_cell (M14.get 0 rfl) rfl) hh
 intro aC fr
 refine zpk 4 10 [91, 92] fr (news := [(91, (.bool (B17 || (!(bm == (!((e.nm : ByteArray).toList == (⟨#[]⟩ : ByteArray).toList))))))), (92, (.bool (B17 || (!(bm == (!((e.nm : ByteArray).toList == (⟨#[]⟩ : ByteArray).toList)))))))]) (by cases B17 <;> kernel_rfl) ?_
 intro aC fr
 obtain ⟨B26, hB26⟩ : ∃ B : Bool, B = (B17 || (!(bm == (!((e.nm : ByteArray).toList == (⟨#[]⟩ : ByteArray).toList))))) := ⟨_, rfl⟩
 revert aC
 refine zkp [(1, (.int .i64 lo)), (2, (.int .i64 d)), (3, (pT b1 0)), (7, (.int .i64 le)), (8, (.int .i64 mo)), (9, (.bool bm)), (92, (.bool (B17 || (!(bm == (!((e.nm : ByteArray).toList == (⟨#[]⟩ : ByteArray).toList)))))))] ?_
 rw [← hB26]
 have iB26 : B26 = true ↔ ((¬ (bn = true)) ∨ (¬ (bm = (!((e.nm : ByteArray).toList == (⟨#[]⟩ : ByteArray).toList))))) := by rw [hB26]; simp only [Bool.or_eq_true, notT, beq_iff_eq, seq_nil, iB17]
 clear hB26
 intro aC fr
 refine zpk 3 13 [94, 95] fr (news := [(94, (cond (!B26) (.bool bm) undef)), (95, (cond (!B26 && bm) (pT b1 2) undef))]) (by cases B26 <;> cases bm <;> kernel_rfl) ?_
 intro aC fr
 refine From_either (B := (!B26 && bm)) (d := (some 96)) (.string e.nm) fr (by cases B26 <;> cases bm <;> kernel_rfl) (fun hB hh => ?_) ?_
 cases B26 <;> cases bm <;> first | (exact absurd hB (by decide)) | skip
 exact From_ld (some 96) ⟨b1, 2, none⟩ fr (by kernel_rfl) (.string e.nm) (blk_cell (M14.get 0 rfl) rfl) hh
 intro aC fr
 refine From_eitherC (B := (!B26 && bm)) (d := (some 97)) (.bool (decide (nameQ e.nm))) fr (by cases B26 <;> cases bm <;> kernel_rfl) (fun hB hh => ?_) ?_
 cases B26 <;> cases bm <;> first | (exact absurd hB (by decide)) | skip
 refine From_cl (some 97) 50 [(.string e.nm)] fr (by kernel_rfl) (rname_c e.nm w13) ?_
 rintro _ w2 ⟨rfl, hm2⟩ a2 hF2; exact hh a2 w2 hm2 hF2
 intro aC w33 M34x fr
 have M34 := M14.cl M34x
 refine zpk 4 19 [100, 101] fr (news := [(100, (.bool (B26 || (bm && (!(decide (nameQ e.nm))))))), (101, (.bool (B26 || (bm && (!(decide (nameQ e.nm)))))))]) (by cases B26 <;> cases bm <;> kernel_rfl) ?_
 intro aC fr
 obtain ⟨B39, hB39⟩ : ∃ B : Bool, B = (B26 || (bm && (!(decide (nameQ e.nm))))) := ⟨_, rfl⟩
 revert aC
 refine zkp [(1, (.int .i64 lo)), (2, (.int .i64 d)), (3, (pT b1 0)), (7, (.int .i64 le)), (8, (.int .i64 mo)), (101, (.bool (B26 || (bm && (!(decide (nameQ e.nm)))))))] ?_
 rw [← hB39]
 have iB39 : B39 = true ↔ (((¬ (bn = true)) ∨ (¬ (bm = (!((e.nm : ByteArray).toList == (⟨#[]⟩ : ByteArray).toList))))) ∨ ((bm = true) ∧ (¬ (nameQ e.nm)))) := by rw [hB39]; simp only [Bool.or_eq_true, Bool.and_eq_true, notT, decide_eq_true_eq, iB26]
 clear hB39
 intro aC fr
 refine zpk 1 20 [102] fr (news := [(102, (cond (!B39) (pT b1 3) undef))]) (by cases B39 <;> kernel_rfl) ?_
 intro aC fr
 refine From_either (B := (!B39)) (d := (some 103)) (.slice e.A e.kids.length e.c) fr (by cases B39 <;> kernel_rfl) (fun hB hh => ?_) ?_
 cases B39 <;> first | (exact absurd hB (by decide)) | skip
 have c39 : ¬ (((¬ (bn = true)) ∨ (¬ (bm = (!((e.nm : ByteArray).toList == (⟨#[]⟩ : ByteArray).toList))))) ∨ ((bm = true) ∧ (¬ (nameQ e.nm)))) := (fun h => Bool.noConfusion (iB39.2 h) : ¬ (((¬ (bn = true)) ∨ (¬ (bm = (!((e.nm : ByteArray).toList == (⟨#[]⟩ : ByteArray).toList))))) ∨ ((bm = true) ∧ (¬ (nameQ e.nm)))))
 exact From_ld (some 103) ⟨b1, 3, none⟩ fr (by kernel_rfl) (.slice e.A e.kids.length e.c) (blk_cell (M34.get 0 rfl) rfl) hh
 intro aC fr
 refine zpk 5 26 [107, 108] fr (news := [(107, (.bool (B39 || decide ((((e.kids.length : Nat) : Int) : Int) < le)))), (108, (.bool (B39 || decide ((((e.kids.length : Nat) : Int) : Int) < le))))]) (by cases B39 <;> kernel_rfl) ?_
 intro aC fr
 obtain ⟨B48, hB48⟩ : ∃ B : Bool, B = (B39 || decide ((((e.kids.length : Nat) : Int) : Int) < le)) := ⟨_, rfl⟩
 revert aC
 refine zkp [(1, (.int .i64 lo)), (2, (.int .i64 d)), (3, (pT b1 0)), (8, (.int .i64 mo)), (108, (.bool (B39 || decide ((((e.kids.length : Nat) : Int) : Int) < le))))] ?_
 rw [← hB48]
 have iB48 : B48 = true ↔ ((((¬ (bn = true)) ∨ (¬ (bm = (!((e.nm : ByteArray).toList == (⟨#[]⟩ : ByteArray).toList))))) ∨ ((bm = true) ∧ (¬ (nameQ e.nm)))) ∨ ((((e.kids.length : Nat) : Int) : Int) < le)) := by rw [hB48]; simp only [Bool.or_eq_true, decide_eq_true_eq, iB39]
 clear hB48
 intro aC fr
 refine zpk 1 27 [109] fr (news := [(109, (cond (!B48) (pT b1 3) undef))]) (by cases B48 <;> kernel_rfl) ?_
 intro aC fr
 refine From_either (B := (!B48)) (d := (some 110)) (.slice e.A e.kids.length e.c) fr (by cases B48 <;> kernel_rfl) (fun hB hh => ?_) ?_
 cases B48 <;> first | (exact absurd hB (by decide)) | skip
 have c48 : ¬ ((((¬ (bn = true)) ∨ (¬ (bm = (!((e.nm : ByteArray).toList == (⟨#[]⟩ : ByteArray).toList))))) ∨ ((bm = true) ∧ (¬ (nameQ e.nm)))) ∨ ((((e.kids.length : Nat) : Int) : Int) < le)) := (fun h => Bool.noConfusion (iB48.2 h) : ¬ ((((¬ (bn = true)) ∨ (¬ (bm = (!((e.nm : ByteArray).toList == (⟨#[]⟩ : ByteArray).toList))))) ∨ ((bm = true) ∧ (¬ (nameQ e.nm)))) ∨ ((((e.kids.length : Nat) : Int) : Int) < le)))
 exact From_ld (some 110) ⟨b1, 3, none⟩ fr (by kernel_rfl) (.slice e.A e.kids.length e.c) (blk_cell (M34.get 0 rfl) rfl) hh
 intro aC fr
 refine zpk 5 33 [114, 115] fr (news := [(114, (.bool (B48 || decide ((((e.kids.length : Nat) : Int) : Int) > mo)))), (115, (.bool (B48 || decide ((((e.kids.length : Nat) : Int) : Int) > mo))))]) (by cases B48 <;> kernel_rfl) ?_
 intro aC fr
 obtain ⟨B57, hB57⟩ : ∃ B : Bool, B = (B48 || decide ((((e.kids.length : Nat) : Int) : Int) > mo)) := ⟨_, rfl⟩
 revert aC
 refine zkp [(1, (.int .i64 lo)), (2, (.int .i64 d)), (3, (pT b1 0)), (115, (.bool (B48 || decide ((((e.kids.length : Nat) : Int) : Int) > mo))))] ?_
 rw [← hB57]
 have iB57 : B57 = true ↔ (((((¬ (bn = true)) ∨ (¬ (bm = (!((e.nm : ByteArray).toList == (⟨#[]⟩ : ByteArray).toList))))) ∨ ((bm = true) ∧ (¬ (nameQ e.nm)))) ∨ ((((e.kids.length : Nat) : Int) : Int) < le)) ∨ ((((e.kids.length : Nat) : Int) : Int) > mo)) := by rw [hB57]; simp only [Bool.or_eq_true, decide_eq_true_eq, iB48]
 clear hB57
 intro aC fr
 refine zpk 3 36 [118] fr (news := [(118, (.bool (B57 || decide ((d : Int) > 100))))]) (by cases B57 <;> kernel_rfl) ?_
 intro aC fr
 revert aC
 refine zfe <| zcP (B57 || decide ((d : Int) > 100)) ((((((¬ (bn = true)) ∨ (¬ (bm = (!((e.nm : ByteArray).toList == (⟨#[]⟩ : ByteArray).toList))))) ∨ ((bm = true) ∧ (¬ (nameQ e.nm)))) ∨ ((((e.kids.length : Nat) : Int) : Int) < le)) ∨ ((((e.kids.length : Nat) : Int) : Int) > mo)) ∨ ((d : Int) > 100)) (by simp only [Bool.or_eq_true, decide_eq_true_eq, iB57]) (fun c62 => ?_) (fun c62 => ?_)
 have hno := (rex_iff (seq_nil _) hsh).1 c62
 refine zsp <| zre <| zo1 (.bool false) ?_
 have M63 := M34.od [] 0
 exact ⟨congrArg Value.bool (show exV lo d e = false by rw [exV_eq, decide_eq_false hno, Bool.false_and]).symm, M63⟩
 have hok := Classical.not_not.1 (fun h_ => c62 ((rex_iff (seq_nil _) hsh).2 h_))
 refine zsk <| zsq <| zsp <| zbk 1 ?_
 intro aC fr
 refine zlp (fun n_ a_ w_ => ∃ (j : Nat), n_ = e.kids.length - j ∧ Fr a_ 136 [(1, (.int .i64 lo)), (2, (.int .i64 d)), (3, (pT b1 0)), (11, (nV j))] ∧ Mem noS w w_ [.blk b1 53 [(.int .i64 e.op), (.int .i64 e.n), (.string e.nm), (.slice e.A e.kids.length e.c)]] ∧ (j ≤ e.kids.length) ∧ (exsV lo (d + 1) e.kids = exsV lo (d + 1) (e.kids.drop j))) (n := _) ⟨0, rfl, fr.kp [1, 2, 3, 11], M34, Nat.zero_le _, (by rw [List.drop_zero])⟩ ?_
 clear fr aC M34; rintro n aC w66 ⟨j, rfl, fr, M67, hj, hr⟩
 revert aC
 refine zsq <| zsr <| zpn 2 <| zld ⟨b1, 3, none⟩ (.slice e.A e.kids.length e.c) (blk_cell (M67.get 0 rfl) rfl) <| zpn 2 <| zfe <| zcD (((j : Int) : Int) < ((e.kids.length : Nat) : Int)) (fun c70 => ?_) (fun c70 => ?_)
 refine zsk <| zsq <| zbk 2 <| zsr ?_
 obtain ⟨k, hk⟩ := get_of (l := e.kids) (i := j) (by omega)
 have hkm := List.mem_of_getElem? hk
 refine zpn 1 <| zld ⟨b1, 3, none⟩ (.slice e.A e.kids.length e.c) (blk_cell (M67.get 0 rfl) rfl) <| zpn 1 ?_
 obtain ⟨ad71, had72⟩ := rds_some (M67.ro (hT.sub hs.kids.1)) (cs := k.cells) (i := j) (by rw [List.getElem?_map, hk]; rfl)
 intro aC fr
 refine From_ixA (some 129) e.A ad71 e.kids.length 4 (j : Int) fr (by kernel_rfl) had72 (by omega) (by omega) ?_
 intro aC fr
 revert aC
 refine zls ((ad71 : Addr).add (((j : Int)).toNat * 4)) [(.int .i64 k.op), (.int .i64 k.n), (.string k.nm), (.slice k.A k.kids.length k.c)] (rds_cells (i := j) (M67.ro (hT.sub hs.kids.1)) had72 (by rw [List.getElem?_map, hk]; rfl)) ?_
 refine zpn 2 <| zar (d + 1) <| zcl (ih k hkm lo (d + 1) T w66 (by omega) (by omega) (hT.at_ M67) (hs.kids.2 k hkm) (exsI_mem hI.kids hkm)) ?_
 rintro _ w77 ⟨rfl, M78x⟩
 have M78 := M67.cl M78x
 refine zpn 1 <| zfe <| zcP (!(exV lo (d + 1) k)) (¬ ((exV lo (d + 1) k) = true)) (by simp only [notT]) (fun c79 => ?_) (fun c79 => ?_)
 replace c79 : (exV lo (d + 1) k) = false := Bool.eq_false_iff.2 c79
 have ck_ : exV lo (d + 1) k = false := by simpa using c79
 refine zsp <| zre <| zbr <| zbr <| zo1 (.bool false) ?_
 have M80 := M78.od [] 0
 exact ⟨congrArg Value.bool (show exV lo d e = false by rw [exV_eq, hr, exsV_at hk, ck_, Bool.false_and, Bool.and_false]).symm, M80⟩
 replace c79 : (exV lo (d + 1) k) = true := Classical.not_not.1 c79
 have ck_ : exV lo (d + 1) k = true := by simpa using c79
 refine zsk <| zrg <| zpn 1 <| zar ((j : Int) + 1) <| zkp [(1, (.int .i64 lo)), (2, (.int .i64 d)), (3, (pT b1 0)), (125, (.int .i64 ((j : Int) + 1)))] <| zpn 1 <| zfe ?_
 intro aC fr
 exact ⟨e.kids.length - (j + 1), by omega, j + 1, rfl, fr.kp [1, 2, 3, 11], M78, by omega, hr.trans (by rw [exsV_at hk, ck_, Bool.true_and])⟩
 refine zex 1 <| zbh <| zsp <| zre <| zo1 (.bool true) ?_
 have M83 := M67.od [] 0
 exact ⟨congrArg Value.bool (show exV lo d e = true by rw [exV_eq, decide_eq_true hok, hr, List.drop_eq_nil_of_le (by omega), exsV_nil, Bool.true_and]).symm, M83⟩
 revert aC
 refine zbk 0 <| zsp <| zcP ((e.op : Int) == 1) ((e.op : Int) = 1) (by simp only [beq_iff_eq]) (fun c84 => ?_) (fun c84 => ?_)
 refine zrp ?_
 intro aC fr
 exact ⟨0, 0, true, false, fr.kp [1, 2, 3, 7, 8, 9, 10], M10, by rw [esQ_1 (by omega), caseEF litT']; constructor <;> intro h_ <;> first | omega | exact h_.elim | exact h_.1.elim | exact ⟨trivial, by omega⟩ | exact ⟨by omega, by omega⟩⟩
 refine zsp <| zcP ((e.op : Int) == 2) ((e.op : Int) = 2) (by simp only [beq_iff_eq]) (fun c87 => ?_) (fun c87 => ?_)
 refine zrg <| zpn 1 <| zld ⟨b1, 1, none⟩ (.int .i64 e.n) (blk_cell (M10.get 0 rfl) rfl) <| zpn 2 ?_
 obtain ⟨B88, hB88⟩ : ∃ B : Bool, B = decide ((e.n : Int) ≥ 0) := ⟨_, rfl⟩
 refine zkp [(1, (.int .i64 lo)), (2, (.int .i64 d)), (3, (pT b1 0)), (7, (.int .i64 0)), (8, (.int .i64 0)), (9, (.bool false)), (24, (.bool (decide ((e.n : Int) ≥ 0))))] ?_
 rw [← hB88]
 have iB88 : B88 = true ↔ ((e.n : Int) ≥ 0) := by rw [hB88]; simp only [decide_eq_true_eq]
 clear hB88
 intro aC fr
 refine zpk 1 5 [25] fr (news := [(25, (cond B88 (pT b1 1) undef))]) (by cases B88 <;> kernel_rfl) ?_
 intro aC fr
 refine From_either (B := B88) (d := (some 26)) (.int .i64 e.n) fr (by cases B88 <;> kernel_rfl) (fun hB hh => ?_) ?_
 cases B88 <;> first | (exact absurd hB (by decide)) | skip
 have c88 : ((e.n : Int) ≥ 0) := iB88.1 rfl
 exact From_ld (some 26) ⟨b1, 1, none⟩ fr (by kernel_rfl) (.int .i64 e.n) (blk_cell (M10.get 0 rfl) rfl) hh
 intro aC fr
 refine zpk 4 10 [10, 29] fr (news := [(10, (.bool (B88 && decide ((e.n : Int) < lo)))), (29, (.bool (B88 && decide ((e.n : Int) < lo))))]) (by cases B88 <;> kernel_rfl) ?_
 intro aC fr
 revert aC
 refine zfe ?_
 intro aC fr
 exact ⟨0, 0, (B88 && decide ((e.n : Int) < lo)), false, fr.kp [1, 2, 3, 7, 8, 9, 10], M10, by rw [esQ_2 (by omega), caseEF (show (B88 && decide ((e.n : Int) < lo)) = true ↔ (((e.n : Int) ≥ 0) ∧ ((e.n : Int) < lo)) by simp only [Bool.and_eq_true, decide_eq_true_eq, iB88])]; constructor <;> intro h_ <;> first | omega | exact h_.elim | exact h_.1.elim | exact ⟨trivial, by omega⟩ | exact ⟨by omega, by omega⟩⟩
 refine zsp <| zcP ((e.op : Int) == 3) ((e.op : Int) = 3) (by simp only [beq_iff_eq]) (fun c99 => ?_) (fun c99 => ?_)
 obtain ⟨B100, hB100⟩ : ∃ B : Bool, B = decide (e.n ≥ 1) := ⟨_, rfl⟩
 cases B100
 have c100 : ¬ (e.n ≥ 1) := of_decide_eq_false hB100.symm
 refine zkp [(1, (.int .i64 lo)), (2, (.int .i64 d)), (3, (pT b1 0)), (7, (.int .i64 0)), (8, (.int .i64 0)), (9, (.bool false)), (10, (.bool B4)), (16, (.int .i64 e.op))] ?_
 intro aC fr
 refine zdt 10 (N := 136) (env0 := [(1, (.int .i64 lo)), (2, (.int .i64 d)), (3, (pT b1 0)), (7, (.int .i64 0)), (8, (.int .i64 0)), (9, (.bool false)), (10, (.bool B4)), (16, (.int .i64 e.op))]) (specAt [.det (pT b1 1), .det (.int .i64 e.n), .det (.bool false), .det (.bool false), dU, dU, dU, .det (.bool false), .det (.int .i64 2), .det (.int .i64 2)]) fr (la (la (la (la (la (la (la (la (la (la lz dP) (dL ⟨b1, 1, none⟩ (.int .i64 e.n) fun w_ hK => (blk_cell ((M10.then_ hK).get 0 rfl) rfl))) (dC (decide (e.n ≥ 1)) hB100)) dP) dK) dK) dK) dP) dP) dP) ?_
 intro aC w105 vs hK hv fr
 revert aC; refine zkp [(1, (.int .i64 lo)), (2, (.int .i64 d)), (3, (pT b1 0)), (7, (.int .i64 2)), (8, (.int .i64 2)), (9, (.bool false)), (39, (.bool false))] ?_
 have M106 := M10.then_ hK
 clear hK hv fr aC M10; clear vs
 refine zpn 1 <| zfe ?_
 intro aC fr
 exact ⟨2, 2, false, false, fr.kp [1, 2, 3, 7, 8, 9, 10], M106, by rw [esQ_3 (by omega), caseEF litF']; constructor <;> intro h_ <;> first | omega | exact h_.elim | exact h_.1.elim | exact ⟨trivial, by omega⟩ | exact ⟨by omega, by omega⟩⟩
 have c100 : e.n ≥ 1 := of_decide_eq_true hB100.symm
 obtain ⟨B109, hB109⟩ : ∃ B : Bool, B = decide (e.n ≤ 16) := ⟨_, rfl⟩
 refine zkp [(1, (.int .i64 lo)), (2, (.int .i64 d)), (3, (pT b1 0)), (7, (.int .i64 0)), (8, (.int .i64 0)), (9, (.bool false)), (10, (.bool B4)), (16, (.int .i64 e.op))] ?_
 intro aC fr
 refine zdt 10 (N := 136) (env0 := [(1, (.int .i64 lo)), (2, (.int .i64 d)), (3, (pT b1 0)), (7, (.int .i64 0)), (8, (.int .i64 0)), (9, (.bool false)), (10, (.bool B4)), (16, (.int .i64 e.op))]) (specAt [.det (pT b1 1), .det (.int .i64 e.n), .det (.bool true), .det (.bool true), .det (pT b1 1), .det (.int .i64 e.n), .det (.bool B109), .det (.bool B109), .det (.int .i64 2), .det (.int .i64 2)]) fr (la (la (la (la (la (la (la (la (la (la lz dP) (dL ⟨b1, 1, none⟩ (.int .i64 e.n) fun w_ hK => (blk_cell ((M10.then_ hK).get 0 rfl) rfl))) (dC (decide (e.n ≥ 1)) hB100)) dP) dP) (dL ⟨b1, 1, none⟩ (.int .i64 e.n) fun w_ hK => (blk_cell ((M10.then_ hK).get 0 rfl) rfl))) (dC (decide (e.n ≤ 16)) hB109)) dP) dP) dP) ?_
 intro aC w114 vs hK hv fr
 revert aC; refine zkp [(1, (.int .i64 lo)), (2, (.int .i64 d)), (3, (pT b1 0)), (7, (.int .i64 2)), (8, (.int .i64 2)), (9, (.bool false)), (39, (.bool B109))] ?_
 have M115 := M10.then_ hK
 clear hK hv fr aC M10; clear vs
 have iB109 : B109 = true ↔ ((e.n : Int) ≤ 16) := by rw [hB109]; simp only [decide_eq_true_eq]
 clear hB109
 refine zpn 1 <| zfe ?_
 intro aC fr
 exact ⟨2, 2, B109, false, fr.kp [1, 2, 3, 7, 8, 9, 10], M115, by rw [esQ_3 (by omega), caseEF (show B109 = true ↔ ((e.n : Int) ≤ 16) by simp only [iB109])]; constructor <;> intro h_ <;> first | omega | exact h_.elim | exact h_.1.elim | exact ⟨trivial, by omega⟩ | exact ⟨by omega, by omega⟩⟩
 refine zsp <| zcP ((e.op : Int) == 4) ((e.op : Int) = 4) (by simp only [beq_iff_eq]) (fun c118 => ?_) (fun c118 => ?_)
 obtain ⟨B119, hB119⟩ : ∃ B : Bool, B = decide (e.n ≥ 1) := ⟨_, rfl⟩
 cases B119
 have c119 : ¬ (e.n ≥ 1) := of_decide_eq_false hB119.symm
 refine zkp [(1, (.int .i64 lo)), (2, (.int .i64 d)), (3, (pT b1 0)), (7, (.int .i64 0)), (8, (.int .i64 0)), (9, (.bool false)), (10, (.bool B4)), (16, (.int .i64 e.op))] ?_
 intro aC fr
 refine zdt 10 (N := 136) (env0 := [(1, (.int .i64 lo)), (2, (.int .i64 d)), (3, (pT b1 0)), (7, (.int .i64 0)), (8, (.int .i64 0)), (9, (.bool false)), (10, (.bool B4)), (16, (.int .i64 e.op))]) (specAt [.det (pT b1 1), .det (.int .i64 e.n), .det (.bool false), .det (.bool false), dU, dU, dU, .det (.bool false), .det (.int .i64 1), .det (.int .i64 1)]) fr (la (la (la (la (la (la (la (la (la (la lz dP) (dL ⟨b1, 1, none⟩ (.int .i64 e.n) fun w_ hK => (blk_cell ((M10.then_ hK).get 0 rfl) rfl))) (dC (decide (e.n ≥ 1)) hB119)) dP) dK) dK) dK) dP) dP) dP) ?_
 intro aC w124 vs hK hv fr
 revert aC; refine zkp [(1, (.int .i64 lo)), (2, (.int .i64 d)), (3, (pT b1 0)), (7, (.int .i64 1)), (8, (.int .i64 1)), (9, (.bool false)), (49, (.bool false))] ?_
 have M125 := M10.then_ hK
 clear hK hv fr aC M10; clear vs
 refine zpn 1 <| zfe ?_
 intro aC fr
 exact ⟨1, 1, false, false, fr.kp [1, 2, 3, 7, 8, 9, 10], M125, by rw [esQ_4 (by omega), caseEF litF']; constructor <;> intro h_ <;> first | omega | exact h_.elim | exact h_.1.elim | exact ⟨trivial, by omega⟩ | exact ⟨by omega, by omega⟩⟩
 have c119 : e.n ≥ 1 := of_decide_eq_true hB119.symm
 obtain ⟨B128, hB128⟩ : ∃ B : Bool, B = decide (e.n ≤ 3) := ⟨_, rfl⟩
 refine zkp [(1, (.int .i64 lo)), (2, (.int .i64 d)), (3, (pT b1 0)), (7, (.int .i64 0)), (8, (.int .i64 0)), (9, (.bool false)), (10, (.bool B4)), (16, (.int .i64 e.op))] ?_
 intro aC fr
 refine zdt 10 (N := 136) (env0 := [(1, (.int .i64 lo)), (2, (.int .i64 d)), (3, (pT b1 0)), (7, (.int .i64 0)), (8, (.int .i64 0)), (9, (.bool false)), (10, (.bool B4)), (16, (.int .i64 e.op))]) (specAt [.det (pT b1 1), .det (.int .i64 e.n), .det (.bool true), .det (.bool true), .det (pT b1 1), .det (.int .i64 e.n), .det (.bool B128), .det (.bool B128), .det (.int .i64 1), .det (.int .i64 1)]) fr (la (la (la (la (la (la (la (la (la (la lz dP) (dL ⟨b1, 1, none⟩ (.int .i64 e.n) fun w_ hK => (blk_cell ((M10.then_ hK).get 0 rfl) rfl))) (dC (decide (e.n ≥ 1)) hB119)) dP) dP) (dL ⟨b1, 1, none⟩ (.int .i64 e.n) fun w_ hK => (blk_cell ((M10.then_ hK).get 0 rfl) rfl))) (dC (decide (e.n ≤ 3)) hB128)) dP) dP) dP) ?_
 intro aC w133 vs hK hv fr
 revert aC; refine zkp [(1, (.int .i64 lo)), (2, (.int .i64 d)), (3, (pT b1 0)), (7, (.int .i64 1)), (8, (.int .i64 1)), (9, (.bool false)), (49, (.bool B128))] ?_
 have M134 := M10.then_ hK
 clear hK hv fr aC M10; clear vs
 have iB128 : B128 = true ↔ ((e.n : Int) ≤ 3) := by rw [hB128]; simp only [decide_eq_true_eq]
 clear hB128
 refine zpn 1 <| zfe ?_
 intro aC fr
 exact ⟨1, 1, B128, false, fr.kp [1, 2, 3, 7, 8, 9, 10], M134, by rw [esQ_4 (by omega), caseEF (show B128 = true ↔ ((e.n : Int) ≤ 3) by simp only [iB128])]; constructor <;> intro h_ <;> first | omega | exact h_.elim | exact h_.1.elim | exact ⟨trivial, by omega⟩ | exact ⟨by omega, by omega⟩⟩
 refine zsp <| zcP ((e.op : Int) == 5) ((e.op : Int) = 5) (by simp only [beq_iff_eq]) (fun c137 => ?_) (fun c137 => ?_)
 obtain ⟨B138, hB138⟩ : ∃ B : Bool, B = decide (e.n ≥ 0) := ⟨_, rfl⟩
 cases B138
 have c138 : ¬ (e.n ≥ 0) := of_decide_eq_false hB138.symm
 refine zkp [(1, (.int .i64 lo)), (2, (.int .i64 d)), (3, (pT b1 0)), (7, (.int .i64 0)), (8, (.int .i64 0)), (9, (.bool false)), (10, (.bool B4)), (16, (.int .i64 e.op))] ?_
 intro aC fr
 refine zdt 10 (N := 136) (env0 := [(1, (.int .i64 lo)), (2, (.int .i64 d)), (3, (pT b1 0)), (7, (.int .i64 0)), (8, (.int .i64 0)), (9, (.bool false)), (10, (.bool B4)), (16, (.int .i64 e.op))]) (specAt [.det (pT b1 1), .det (.int .i64 e.n), .det (.bool false), .det (.bool false), dU, dU, dU, .det (.bool false), .det (.int .i64 1), .det (.int .i64 1)]) fr (la (la (la (la (la (la (la (la (la (la lz dP) (dL ⟨b1, 1, none⟩ (.int .i64 e.n) fun w_ hK => (blk_cell ((M10.then_ hK).get 0 rfl) rfl))) (dC (decide (e.n ≥ 0)) hB138)) dP) dK) dK) dK) dP) dP) dP) ?_
 intro aC w143 vs hK hv fr
 revert aC; refine zkp [(1, (.int .i64 lo)), (2, (.int .i64 d)), (3, (pT b1 0)), (7, (.int .i64 1)), (8, (.int .i64 1)), (9, (.bool false)), (59, (.bool false))] ?_
 have M144 := M10.then_ hK
 clear hK hv fr aC M10; clear vs
 refine zpn 1 <| zfe ?_
 intro aC fr
 exact ⟨1, 1, false, false, fr.kp [1, 2, 3, 7, 8, 9, 10], M144, by rw [esQ_5 (by omega), caseEF litF']; constructor <;> intro h_ <;> first | omega | exact h_.elim | exact h_.1.elim | exact ⟨trivial, by omega⟩ | exact ⟨by omega, by omega⟩⟩
 have c138 : e.n ≥ 0 := of_decide_eq_true hB138.symm
 obtain ⟨B147, hB147⟩ : ∃ B : Bool, B = decide (e.n ≤ 2147483647) := ⟨_, rfl⟩
 refine zkp [(1, (.int .i64 lo)), (2, (.int .i64 d)), (3, (pT b1 0)), (7, (.int .i64 0)), (8, (.int .i64 0)), (9, (.bool false)), (10, (.bool B4)), (16, (.int .i64 e.op))] ?_
 intro aC fr
 refine zdt 10 (N := 136) (env0 := [(1, (.int .i64 lo)), (2, (.int .i64 d)), (3, (pT b1 0)), (7, (.int .i64 0)), (8, (.int .i64 0)), (9, (.bool false)), (10, (.bool B4)), (16, (.int .i64 e.op))]) (specAt [.det (pT b1 1), .det (.int .i64 e.n), .det (.bool true), .det (.bool true), .det (pT b1 1), .det (.int .i64 e.n), .det (.bool B147), .det (.bool B147), .det (.int .i64 1), .det (.int .i64 1)]) fr (la (la (la (la (la (la (la (la (la (la lz dP) (dL ⟨b1, 1, none⟩ (.int .i64 e.n) fun w_ hK => (blk_cell ((M10.then_ hK).get 0 rfl) rfl))) (dC (decide (e.n ≥ 0)) hB138)) dP) dP) (dL ⟨b1, 1, none⟩ (.int .i64 e.n) fun w_ hK => (blk_cell ((M10.then_ hK).get 0 rfl) rfl))) (dC (decide (e.n ≤ 2147483647)) hB147)) dP) dP) dP) ?_
 intro aC w152 vs hK hv fr
 revert aC; refine zkp [(1, (.int .i64 lo)), (2, (.int .i64 d)), (3, (pT b1 0)), (7, (.int .i64 1)), (8, (.int .i64 1)), (9, (.bool false)), (59, (.bool B147))] ?_
 have M153 := M10.then_ hK
 clear hK hv fr aC M10; clear vs
 have iB147 : B147 = true ↔ ((e.n : Int) ≤ 2147483647) := by rw [hB147]; simp only [decide_eq_true_eq]
 clear hB147
 refine zpn 1 <| zfe ?_
 intro aC fr
 exact ⟨1, 1, B147, false, fr.kp [1, 2, 3, 7, 8, 9, 10], M153, by rw [esQ_5 (by omega), caseEF (show B147 = true ↔ ((e.n : Int) ≤ 2147483647) by simp only [iB147])]; constructor <;> intro h_ <;> first | omega | exact h_.elim | exact h_.1.elim | exact ⟨trivial, by omega⟩ | exact ⟨by omega, by omega⟩⟩
 refine zsp <| zcP ((e.op : Int) == 6) ((e.op : Int) = 6) (by simp only [beq_iff_eq]) (fun c156 => ?_) (fun c156 => ?_)
 refine zrp ?_
 intro aC fr
 exact ⟨0, 16, B4, true, fr.kp [1, 2, 3, 7, 8, 9, 10], M10, by rw [esQ_6 (by omega), caseET (show B4 = true ↔ ((e.n : Int) = 0) by simp only [iB4])]; constructor <;> intro h_ <;> first | omega | exact h_.elim | exact h_.1.elim | exact ⟨trivial, by omega⟩ | exact ⟨by omega, by omega⟩⟩
 refine zsp <| zcP ((e.op : Int) == 7) ((e.op : Int) = 7) (by simp only [beq_iff_eq]) (fun c159 => ?_) (fun c159 => ?_)
 refine zrp ?_
 intro aC fr
 exact ⟨1, 17, B4, false, fr.kp [1, 2, 3, 7, 8, 9, 10], M10, by rw [esQ_7 (by omega), caseEF (show B4 = true ↔ ((e.n : Int) = 0) by simp only [iB4])]; constructor <;> intro h_ <;> first | omega | exact h_.elim | exact h_.1.elim | exact ⟨trivial, by omega⟩ | exact ⟨by omega, by omega⟩⟩
 refine zsq <| zsp ?_
 obtain ⟨B162, hB162⟩ : ∃ B : Bool, B = ((e.op : Int) == 8) := ⟨_, rfl⟩
 refine zkp [(1, (.int .i64 lo)), (2, (.int .i64 d)), (3, (pT b1 0)), (7, (.int .i64 0)), (8, (.int .i64 0)), (9, (.bool false)), (10, (.bool B4)), (16, (.int .i64 e.op)), (64, (.bool ((e.op : Int) == 8)))] ?_
 rw [← hB162]
 have iB162 : B162 = true ↔ ((e.op : Int) = 8) := by rw [hB162]; simp only [beq_iff_eq]
 clear hB162
 cases B162
 have c162 : ¬ ((e.op : Int) = 8) := (fun h => Bool.noConfusion (iB162.2 h) : ¬ ((e.op : Int) = 8))
 refine zcF <| zrp <| zcP ((e.op : Int) == 9) ((e.op : Int) = 9) (by simp only [beq_iff_eq]) (fun c163 => ?_) (fun c163 => ?_)
 refine zrp ?_
 intro aC fr
 exact ⟨0, 0, B4, true, fr.kp [1, 2, 3, 7, 8, 9, 10], M10, by rw [esQ_9 (by omega), caseET (show B4 = true ↔ ((e.n : Int) = 0) by simp only [iB4])]; constructor <;> intro h_ <;> first | omega | exact h_.elim | exact h_.1.elim | exact ⟨trivial, by omega⟩ | exact ⟨by omega, by omega⟩⟩
 refine zsp <| zcP ((e.op : Int) == 10) ((e.op : Int) = 10) (by simp only [beq_iff_eq]) (fun c166 => ?_) (fun c166 => ?_)
 refine zrp ?_
 intro aC fr
 exact ⟨1, 1, B4, false, fr.kp [1, 2, 3, 7, 8, 9, 10], M10, by rw [esQ_10 (by omega), caseEF (show B4 = true ↔ ((e.n : Int) = 0) by simp only [iB4])]; constructor <;> intro h_ <;> first | omega | exact h_.elim | exact h_.1.elim | exact ⟨trivial, by omega⟩ | exact ⟨by omega, by omega⟩⟩
 refine zsp <| zcP ((e.op : Int) == 11) ((e.op : Int) = 11) (by simp only [beq_iff_eq]) (fun c169 => ?_) (fun c169 => ?_)
 refine zsk ?_
 intro aC fr
 exact ⟨0, 0, B4, false, fr.kp [1, 2, 3, 7, 8, 9, 10], M10, by rw [esQ_11 (by omega), caseEF (show B4 = true ↔ ((e.n : Int) = 0) by simp only [iB4])]; constructor <;> intro h_ <;> first | omega | exact h_.elim | exact h_.1.elim | exact ⟨trivial, by omega⟩ | exact ⟨by omega, by omega⟩⟩
 refine zsp <| zcP ((e.op : Int) == 12) ((e.op : Int) = 12) (by simp only [beq_iff_eq]) (fun c172 => ?_) (fun c172 => ?_)
 refine zrp ?_
 intro aC fr
 exact ⟨3, 3, B4, false, fr.kp [1, 2, 3, 7, 8, 9, 10], M10, by rw [esQ_12 (by omega), caseEF (show B4 = true ↔ ((e.n : Int) = 0) by simp only [iB4])]; constructor <;> intro h_ <;> first | omega | exact h_.elim | exact h_.1.elim | exact ⟨trivial, by omega⟩ | exact ⟨by omega, by omega⟩⟩
 refine zsp <| zcP ((e.op : Int) == 13) ((e.op : Int) = 13) (by simp only [beq_iff_eq]) (fun c175 => ?_) (fun c175 => ?_)
 obtain ⟨B176, hB176⟩ : ∃ B : Bool, B = decide (e.n ≥ 1) := ⟨_, rfl⟩
 cases B176
 have c176 : ¬ (e.n ≥ 1) := of_decide_eq_false hB176.symm
 refine zkp [(1, (.int .i64 lo)), (2, (.int .i64 d)), (3, (pT b1 0)), (9, (.bool false))] ?_
 intro aC fr
 refine zdt 10 (N := 136) (env0 := [(1, (.int .i64 lo)), (2, (.int .i64 d)), (3, (pT b1 0)), (9, (.bool false))]) (specAt [.det (pT b1 1), .det (.int .i64 e.n), .det (.bool false), .det (.bool false), dU, dU, dU, .det (.bool false), .det (.int .i64 2), .det (.int .i64 2)]) fr (la (la (la (la (la (la (la (la (la (la lz dP) (dL ⟨b1, 1, none⟩ (.int .i64 e.n) fun w_ hK => (blk_cell ((M10.then_ hK).get 0 rfl) rfl))) (dC (decide (e.n ≥ 1)) hB176)) dP) dK) dK) dK) dP) dP) dP) ?_
 intro aC w181 vs hK hv fr
 revert aC; refine zkp [(1, (.int .i64 lo)), (2, (.int .i64 d)), (3, (pT b1 0)), (7, (.int .i64 2)), (8, (.int .i64 2)), (9, (.bool false)), (82, (.bool false))] ?_
 have M182 := M10.then_ hK
 clear hK hv fr aC M10; clear vs
 refine zpn 1 <| zfe ?_
 intro aC fr
 exact ⟨2, 2, false, false, fr.kp [1, 2, 3, 7, 8, 9, 10], M182, by rw [esQ_13 (by omega), caseEF litF']; constructor <;> intro h_ <;> first | omega | exact h_.elim | exact h_.1.elim | exact ⟨trivial, by omega⟩ | exact ⟨by omega, by omega⟩⟩
 have c176 : e.n ≥ 1 := of_decide_eq_true hB176.symm
 obtain ⟨B185, hB185⟩ : ∃ B : Bool, B = decide (e.n ≤ 999) := ⟨_, rfl⟩
 refine zkp [(1, (.int .i64 lo)), (2, (.int .i64 d)), (3, (pT b1 0)), (9, (.bool false))] ?_
 intro aC fr
 refine zdt 10 (N := 136) (env0 := [(1, (.int .i64 lo)), (2, (.int .i64 d)), (3, (pT b1 0)), (9, (.bool false))]) (specAt [.det (pT b1 1), .det (.int .i64 e.n), .det (.bool true), .det (.bool true), .det (pT b1 1), .det (.int .i64 e.n), .det (.bool B185), .det (.bool B185), .det (.int .i64 2), .det (.int .i64 2)]) fr (la (la (la (la (la (la (la (la (la (la lz dP) (dL ⟨b1, 1, none⟩ (.int .i64 e.n) fun w_ hK => (blk_cell ((M10.then_ hK).get 0 rfl) rfl))) (dC (decide (e.n ≥ 1)) hB176)) dP) dP) (dL ⟨b1, 1, none⟩ (.int .i64 e.n) fun w_ hK => (blk_cell ((M10.then_ hK).get 0 rfl) rfl))) (dC (decide (e.n ≤ 999)) hB185)) dP) dP) dP) ?_
 intro aC w190 vs hK hv fr
 revert aC; refine zkp [(1, (.int .i64 lo)), (2, (.int .i64 d)), (3, (pT b1 0)), (7, (.int .i64 2)), (8, (.int .i64 2)), (9, (.bool false)), (82, (.bool B185))] ?_
 have M191 := M10.then_ hK
 clear hK hv fr aC M10; clear vs
 have iB185 : B185 = true ↔ ((e.n : Int) ≤ 999) := by rw [hB185]; simp only [decide_eq_true_eq]
 clear hB185
 refine zpn 1 <| zfe ?_
 intro aC fr
 exact ⟨2, 2, B185, false, fr.kp [1, 2, 3, 7, 8, 9, 10], M191, by rw [esQ_13 (by omega), caseEF (show B185 = true ↔ ((e.n : Int) ≤ 999) by simp only [iB185])]; constructor <;> intro h_ <;> first | omega | exact h_.elim | exact h_.1.elim | exact ⟨trivial, by omega⟩ | exact ⟨by omega, by omega⟩⟩
 refine zsp <| zre <| zbr <| zo1 (.bool false) ?_
 have M194 := M10.od [] 0
 exact ⟨congrArg Value.bool (show exV lo d e = false by rw [exV_eq, decide_eq_false (fun h_ => by have h2_ := esQ_rng h_.2; omega), Bool.false_and]).symm, M194⟩
 have c162 : ((e.op : Int) = 8) := iB162.1 rfl
 refine zcT <| zsk <| zcT <| zrp ?_
 intro aC fr
 exact ⟨0, 0, B4, true, fr.kp [1, 2, 3, 7, 8, 9, 10], M10, by rw [esQ_8 (by omega), caseET (show B4 = true ↔ ((e.n : Int) = 0) by simp only [iB4])]; constructor <;> intro h_ <;> first | omega | exact h_.elim | exact h_.1.elim | exact ⟨trivial, by omega⟩ | exact ⟨by omega, by omega⟩⟩
theorem rexv_all (e : MEx) : RExOk Try.prog e := MEx.ind (fun e ih lo d T w h0 h1 hT hs hI => rexv_c e ih lo d T w h0 h1 hT hs hI) e
set_option maxHeartbeats 1000000 in
theorem rstv_c (x : MSt) (ihb : RStOk Try.prog x.body) (ihl : RStOk Try.prog x.els) (lo d lp : Int) (T : List Res) (w : World) (hd0 : 0 ≤ d) (hd : d ≤ 1000) (hp0 : 0 ≤ lp) (hpd : lp ≤ d) (hT : RO noS w (.all T)) (hs : SubX T x) (hI : stI x) :
    Calls Try.prog 69 #[(.agg #[(.int .i64 x.op), (.int .i64 x.n), (.slice x.eA x.exprs.length x.ec), (.slice x.bA x.body.length x.bc), (.slice x.lA x.els.length x.lc)]), (.int .i64 lo), (.int .i64 d), (.int .i64 lp)] w (Ret fun v w' => v = .bool (stV lo lp d x) ∧ Mem noS w w' []) := by
 have h1_ := hI.own.exprs
 have h2_ := hI.own.body
 have h3_ := hI.own.els
 unfold LenOk at h1_ h2_ h3_
 refine zen 149 [(.agg #[(.int .i64 x.op), (.int .i64 x.n), (.slice x.eA x.exprs.length x.ec), (.slice x.bA x.body.length x.bc), (.slice x.lA x.els.length x.lc)]), (.int .i64 lo), (.int .i64 d), (.int .i64 lp)] Try.func69 ?_
 have hM := Mem.init w
 refine zsr <| zbx hM 48 (.agg #[(.int .i64 x.op), (.int .i64 x.n), (.slice x.eA x.exprs.length x.ec), (.slice x.bA x.body.length x.bc), (.slice x.lA x.els.length x.lc)]) [(.int .i64 x.op), (.int .i64 x.n), (.slice x.eA x.exprs.length x.ec), (.slice x.bA x.body.length x.bc), (.slice x.lA x.els.length x.lc)] fun b1 w2 hb1 M3 => ?_
 replace M3 := M3.nf
 clear hM
 refine zpn 1 <| zfe <| zsp <| zsr <| zpn 1 <| zld ⟨b1, 1, none⟩ (.int .i64 x.n) (blk_cell (M3.get 0 rfl) rfl) <| zpn 2 <| zfe <| zsp <| zsq ?_
 refine zsr <| zpn 1 <| zld ⟨b1, 0, none⟩ (.int .i64 x.op) (blk_cell (M3.get 0 rfl) rfl) <| zfe ?_
 intro aC fr
 refine W_cut (fun a_ w_ => ∃ (le : Int) (mo : Int) (bn : Bool) (bb : Bool) (bo : Bool) (inn : Int), Fr a_ 149 [(1, (.int .i64 lo)), (2, (.int .i64 d)), (4, (pT b1 0)), (9, (.int .i64 le)), (10, (.int .i64 mo)), (11, (.bool bn)), (12, (.bool bb)), (13, (.bool bo)), (14, (.int .i64 inn))] ∧ Mem noS w w_ [.blk b1 48 [(.int .i64 x.op), (.int .i64 x.n), (.slice x.eA x.exprs.length x.ec), (.slice x.bA x.body.length x.bc), (.slice x.lA x.els.length x.lc)]] ∧ (sfQ lo lp x.op x.n x.exprs.length x.body.length x.els.length ↔ caseS le mo bn bb bo x.exprs.length x.body.length x.els.length) ∧ (inn = inner x.op lp)) ?_ ?_
 clear fr aC M3; rintro aC w6 ⟨le, mo, bn, bb, bo, inn, fr, M7, hsh, hin⟩
 revert aC
 refine zsq <| zsr <| zpn 3 ?_
 obtain ⟨B10, hB10⟩ : ∃ B : Bool, B = (!bn) := ⟨_, rfl⟩
 refine zkp [(1, (.int .i64 lo)), (2, (.int .i64 d)), (4, (pT b1 0)), (9, (.int .i64 le)), (10, (.int .i64 mo)), (12, (.bool bb)), (13, (.bool bo)), (14, (.int .i64 inn)), (78, (.bool (!bn)))] ?_
 rw [← hB10]
 have iB10 : B10 = true ↔ (¬ (bn = true)) := by rw [hB10]; simp only [notT]
 clear hB10
 intro aC fr
 refine zpk 1 4 [79] fr (news := [(79, (cond (!B10) (pT b1 2) undef))]) (by cases B10 <;> kernel_rfl) ?_
 intro aC fr
 refine From_either (B := (!B10)) (d := (some 80)) (.slice x.eA x.exprs.length x.ec) fr (by cases B10 <;> kernel_rfl) (fun hB hh => ?_) ?_
 cases B10 <;> first | (exact absurd hB (by decide)) | skip
 have c10 : ¬ (¬ (bn = true)) := (fun h => Bool.noConfusion (iB10.2 h) : ¬ (¬ (bn = true)))
 exact From_ld (some 80) ⟨b1, 2, none⟩ fr (by kernel_rfl) (.slice x.eA x.exprs.length x.ec) (blk_cell (M7.get 0 rfl) rfl) hh
 intro aC fr
 refine zpk 5 10 [84, 85] fr (news := [(84, (.bool (B10 || decide ((((x.exprs.length : Nat) : Int) : Int) < le)))), (85, (.bool (B10 || decide ((((x.exprs.length : Nat) : Int) : Int) < le))))]) (by cases B10 <;> kernel_rfl) ?_
 intro aC fr
 obtain ⟨B19, hB19⟩ : ∃ B : Bool, B = (B10 || decide ((((x.exprs.length : Nat) : Int) : Int) < le)) := ⟨_, rfl⟩
 revert aC
 refine zkp [(1, (.int .i64 lo)), (2, (.int .i64 d)), (4, (pT b1 0)), (10, (.int .i64 mo)), (12, (.bool bb)), (13, (.bool bo)), (14, (.int .i64 inn)), (85, (.bool (B10 || decide ((((x.exprs.length : Nat) : Int) : Int) < le))))] ?_
 rw [← hB19]
 have iB19 : B19 = true ↔ ((¬ (bn = true)) ∨ ((((x.exprs.length : Nat) : Int) : Int) < le)) := by rw [hB19]; simp only [Bool.or_eq_true, decide_eq_true_eq, iB10]
 clear hB19
 intro aC fr
 refine zpk 1 11 [86] fr (news := [(86, (cond (!B19) (pT b1 2) undef))]) (by cases B19 <;> kernel_rfl) ?_
 intro aC fr
 refine From_either (B := (!B19)) (d := (some 87)) (.slice x.eA x.exprs.length x.ec) fr (by cases B19 <;> kernel_rfl) (fun hB hh => ?_) ?_
 cases B19 <;> first | (exact absurd hB (by decide)) | skip
 have c19 : ¬ ((¬ (bn = true)) ∨ ((((x.exprs.length : Nat) : Int) : Int) < le)) := (fun h => Bool.noConfusion (iB19.2 h) : ¬ ((¬ (bn = true)) ∨ ((((x.exprs.length : Nat) : Int) : Int) < le)))
 exact From_ld (some 87) ⟨b1, 2, none⟩ fr (by kernel_rfl) (.slice x.eA x.exprs.length x.ec) (blk_cell (M7.get 0 rfl) rfl) hh
 intro aC fr
 refine zpk 5 17 [91, 92] fr (news := [(91, (.bool (B19 || decide ((((x.exprs.length : Nat) : Int) : Int) > mo)))), (92, (.bool (B19 || decide ((((x.exprs.length : Nat) : Int) : Int) > mo))))]) (by cases B19 <;> kernel_rfl) ?_
 intro aC fr
 obtain ⟨B28, hB28⟩ : ∃ B : Bool, B = (B19 || decide ((((x.exprs.length : Nat) : Int) : Int) > mo)) := ⟨_, rfl⟩
 revert aC
 refine zkp [(1, (.int .i64 lo)), (2, (.int .i64 d)), (4, (pT b1 0)), (12, (.bool bb)), (13, (.bool bo)), (14, (.int .i64 inn)), (92, (.bool (B19 || decide ((((x.exprs.length : Nat) : Int) : Int) > mo))))] ?_
 rw [← hB28]
 have iB28 : B28 = true ↔ (((¬ (bn = true)) ∨ ((((x.exprs.length : Nat) : Int) : Int) < le)) ∨ ((((x.exprs.length : Nat) : Int) : Int) > mo)) := by rw [hB28]; simp only [Bool.or_eq_true, decide_eq_true_eq, iB19]
 clear hB28
 intro aC fr
 refine zpk 3 20 [95] fr (news := [(95, (cond (!B28) (.bool (!bb)) undef))]) (by cases B28 <;> kernel_rfl) ?_
 intro aC fr
 obtain ⟨B33, hB33⟩ : ∃ B : Bool, B = (!bb) := ⟨_, rfl⟩
 revert aC
 refine zkp [(1, (.int .i64 lo)), (2, (.int .i64 d)), (4, (pT b1 0)), (13, (.bool bo)), (14, (.int .i64 inn)), (92, (.bool B28)), (95, (cond (!B28) (.bool (!bb)) undef))] ?_
 rw [← hB33]
 have iB33 : B33 = true ↔ (¬ (bb = true)) := by rw [hB33]; simp only [notT]
 clear hB33
 intro aC fr
 refine zpk 1 21 [96] fr (news := [(96, (cond (!B28 && B33) (pT b1 3) undef))]) (by cases B28 <;> cases B33 <;> kernel_rfl) ?_
 intro aC fr
 refine From_either (B := (!B28 && B33)) (d := (some 97)) (.slice x.bA x.body.length x.bc) fr (by cases B28 <;> cases B33 <;> kernel_rfl) (fun hB hh => ?_) ?_
 cases B28 <;> cases B33 <;> first | (exact absurd hB (by decide)) | skip
 have c28 : ¬ (((¬ (bn = true)) ∨ ((((x.exprs.length : Nat) : Int) : Int) < le)) ∨ ((((x.exprs.length : Nat) : Int) : Int) > mo)) := (fun h => Bool.noConfusion (iB28.2 h) : ¬ (((¬ (bn = true)) ∨ ((((x.exprs.length : Nat) : Int) : Int) < le)) ∨ ((((x.exprs.length : Nat) : Int) : Int) > mo)))
 have c33 : (¬ (bb = true)) := iB33.1 rfl
 exact From_ld (some 97) ⟨b1, 3, none⟩ fr (by kernel_rfl) (.slice x.bA x.body.length x.bc) (blk_cell (M7.get 0 rfl) rfl) hh
 intro aC fr
 refine zpk 5 27 [101, 102] fr (news := [(101, (.bool (B28 || (B33 && decide ((((x.body.length : Nat) : Int) : Int) > 0))))), (102, (.bool (B28 || (B33 && decide ((((x.body.length : Nat) : Int) : Int) > 0)))))]) (by cases B28 <;> cases B33 <;> kernel_rfl) ?_
 intro aC fr
 obtain ⟨B42, hB42⟩ : ∃ B : Bool, B = (B28 || (B33 && decide ((((x.body.length : Nat) : Int) : Int) > 0))) := ⟨_, rfl⟩
 revert aC
 refine zkp [(1, (.int .i64 lo)), (2, (.int .i64 d)), (4, (pT b1 0)), (13, (.bool bo)), (14, (.int .i64 inn)), (102, (.bool (B28 || (B33 && decide ((((x.body.length : Nat) : Int) : Int) > 0)))))] ?_
 rw [← hB42]
 have iB42 : B42 = true ↔ ((((¬ (bn = true)) ∨ ((((x.exprs.length : Nat) : Int) : Int) < le)) ∨ ((((x.exprs.length : Nat) : Int) : Int) > mo)) ∨ ((¬ (bb = true)) ∧ ((((x.body.length : Nat) : Int) : Int) > 0))) := by rw [hB42]; simp only [Bool.or_eq_true, Bool.and_eq_true, decide_eq_true_eq, iB28, iB33]
 clear hB42
 intro aC fr
 refine zpk 3 30 [105] fr (news := [(105, (cond (!B42) (.bool (!bo)) undef))]) (by cases B42 <;> kernel_rfl) ?_
 intro aC fr
 obtain ⟨B47, hB47⟩ : ∃ B : Bool, B = (!bo) := ⟨_, rfl⟩
 revert aC
 refine zkp [(1, (.int .i64 lo)), (2, (.int .i64 d)), (4, (pT b1 0)), (14, (.int .i64 inn)), (102, (.bool B42)), (105, (cond (!B42) (.bool (!bo)) undef))] ?_
 rw [← hB47]
 have iB47 : B47 = true ↔ (¬ (bo = true)) := by rw [hB47]; simp only [notT]
 clear hB47
 intro aC fr
 refine zpk 1 31 [106] fr (news := [(106, (cond (!B42 && B47) (pT b1 4) undef))]) (by cases B42 <;> cases B47 <;> kernel_rfl) ?_
 intro aC fr
 refine From_either (B := (!B42 && B47)) (d := (some 107)) (.slice x.lA x.els.length x.lc) fr (by cases B42 <;> cases B47 <;> kernel_rfl) (fun hB hh => ?_) ?_
 cases B42 <;> cases B47 <;> first | (exact absurd hB (by decide)) | skip
 have c42 : ¬ ((((¬ (bn = true)) ∨ ((((x.exprs.length : Nat) : Int) : Int) < le)) ∨ ((((x.exprs.length : Nat) : Int) : Int) > mo)) ∨ ((¬ (bb = true)) ∧ ((((x.body.length : Nat) : Int) : Int) > 0))) := (fun h => Bool.noConfusion (iB42.2 h) : ¬ ((((¬ (bn = true)) ∨ ((((x.exprs.length : Nat) : Int) : Int) < le)) ∨ ((((x.exprs.length : Nat) : Int) : Int) > mo)) ∨ ((¬ (bb = true)) ∧ ((((x.body.length : Nat) : Int) : Int) > 0))))
 have c47 : (¬ (bo = true)) := iB47.1 rfl
 exact From_ld (some 107) ⟨b1, 4, none⟩ fr (by kernel_rfl) (.slice x.lA x.els.length x.lc) (blk_cell (M7.get 0 rfl) rfl) hh
 intro aC fr
 refine zpk 5 37 [111, 112] fr (news := [(111, (.bool (B42 || (B47 && decide ((((x.els.length : Nat) : Int) : Int) > 0))))), (112, (.bool (B42 || (B47 && decide ((((x.els.length : Nat) : Int) : Int) > 0)))))]) (by cases B42 <;> cases B47 <;> kernel_rfl) ?_
 intro aC fr
 obtain ⟨B56, hB56⟩ : ∃ B : Bool, B = (B42 || (B47 && decide ((((x.els.length : Nat) : Int) : Int) > 0))) := ⟨_, rfl⟩
 revert aC
 refine zkp [(1, (.int .i64 lo)), (2, (.int .i64 d)), (4, (pT b1 0)), (14, (.int .i64 inn)), (112, (.bool (B42 || (B47 && decide ((((x.els.length : Nat) : Int) : Int) > 0)))))] ?_
 rw [← hB56]
 have iB56 : B56 = true ↔ (((((¬ (bn = true)) ∨ ((((x.exprs.length : Nat) : Int) : Int) < le)) ∨ ((((x.exprs.length : Nat) : Int) : Int) > mo)) ∨ ((¬ (bb = true)) ∧ ((((x.body.length : Nat) : Int) : Int) > 0))) ∨ ((¬ (bo = true)) ∧ ((((x.els.length : Nat) : Int) : Int) > 0))) := by rw [hB56]; simp only [Bool.or_eq_true, Bool.and_eq_true, decide_eq_true_eq, iB42, iB47]
 clear hB56
 intro aC fr
 refine zpk 3 40 [115] fr (news := [(115, (.bool (B56 || decide ((d : Int) > 100))))]) (by cases B56 <;> kernel_rfl) ?_
 intro aC fr
 revert aC
 refine zfe <| zcP (B56 || decide ((d : Int) > 100)) ((((((¬ (bn = true)) ∨ ((((x.exprs.length : Nat) : Int) : Int) < le)) ∨ ((((x.exprs.length : Nat) : Int) : Int) > mo)) ∨ ((¬ (bb = true)) ∧ ((((x.body.length : Nat) : Int) : Int) > 0))) ∨ ((¬ (bo = true)) ∧ ((((x.els.length : Nat) : Int) : Int) > 0))) ∨ ((d : Int) > 100)) (by simp only [Bool.or_eq_true, decide_eq_true_eq, iB56]) (fun c61 => ?_) (fun c61 => ?_)
 have hno := (rst_iff hsh).1 c61
 refine zsp <| zre <| zo1 (.bool false) ?_
 have M62 := M7.od [] 0
 exact ⟨congrArg Value.bool (show stV lo lp d x = false by rw [stV_eq, decide_eq_false hno, Bool.false_and]).symm, M62⟩
 have hok := Classical.not_not.1 (fun h_ => c61 ((rst_iff hsh).2 h_))
 refine zsk <| zsq <| zsp <| zbk 1 ?_
 intro aC fr
 refine zlp (fun n_ a_ w_ => ∃ (j : Nat), n_ = x.exprs.length - j ∧ Fr a_ 149 [(1, (.int .i64 lo)), (2, (.int .i64 d)), (4, (pT b1 0)), (14, (.int .i64 inn)), (15, (nV j))] ∧ Mem noS w w_ [.blk b1 48 [(.int .i64 x.op), (.int .i64 x.n), (.slice x.eA x.exprs.length x.ec), (.slice x.bA x.body.length x.bc), (.slice x.lA x.els.length x.lc)]] ∧ (j ≤ x.exprs.length) ∧ (exsV lo (d + 1) x.exprs = exsV lo (d + 1) (x.exprs.drop j))) (n := _) ⟨0, rfl, fr.kp [1, 2, 4, 14, 15], M7, Nat.zero_le _, (by rw [List.drop_zero])⟩ ?_
 clear fr aC M7; rintro n aC w65 ⟨j, rfl, fr, M66, hj, hr⟩
 revert aC
 refine zsq <| zsr <| zpn 2 <| zld ⟨b1, 2, none⟩ (.slice x.eA x.exprs.length x.ec) (blk_cell (M66.get 0 rfl) rfl) <| zpn 2 <| zfe <| zcD (((j : Int) : Int) < ((x.exprs.length : Nat) : Int)) (fun c69 => ?_) (fun c69 => ?_)
 refine zsk <| zsq <| zbk 2 <| zsr ?_
 obtain ⟨k, hk⟩ := get_of (l := x.exprs) (i := j) (by omega)
 have hkm := List.mem_of_getElem? hk
 refine zpn 1 <| zld ⟨b1, 2, none⟩ (.slice x.eA x.exprs.length x.ec) (blk_cell (M66.get 0 rfl) rfl) <| zpn 1 ?_
 obtain ⟨ad70, had71⟩ := rds_some (M66.ro (hT.sub hs.exprs.1)) (cs := k.cells) (i := j) (by rw [List.getElem?_map, hk]; rfl)
 intro aC fr
 refine From_ixA (some 126) x.eA ad70 x.exprs.length 4 (j : Int) fr (by kernel_rfl) had71 (by omega) (by omega) ?_
 intro aC fr
 revert aC
 refine zls ((ad70 : Addr).add (((j : Int)).toNat * 4)) [(.int .i64 k.op), (.int .i64 k.n), (.string k.nm), (.slice k.A k.kids.length k.c)] (rds_cells (i := j) (M66.ro (hT.sub hs.exprs.1)) had71 (by rw [List.getElem?_map, hk]; rfl)) ?_
 refine zpn 2 <| zar (d + 1) <| zcl (rexv_all k lo (d + 1) T w65 (by omega) (by omega) (hT.at_ M66) (hs.exprs.2 k hkm) (exsI_mem hI.exprs hkm)) ?_
 rintro _ w76 ⟨rfl, M77x⟩
 have M77 := M66.cl M77x
 refine zpn 1 <| zfe <| zcP (!(exV lo (d + 1) k)) (¬ ((exV lo (d + 1) k) = true)) (by simp only [notT]) (fun c78 => ?_) (fun c78 => ?_)
 replace c78 : (exV lo (d + 1) k) = false := Bool.eq_false_iff.2 c78
 have ck_ : exV lo (d + 1) k = false := by simpa using c78
 refine zsp <| zre <| zbr <| zbr <| zo1 (.bool false) ?_
 have M79 := M77.od [] 0
 exact ⟨congrArg Value.bool (show stV lo lp d x = false by rw [stV_eq, hr, exsV_at hk, ck_, Bool.false_and, Bool.false_and, Bool.and_false]).symm, M79⟩
 replace c78 : (exV lo (d + 1) k) = true := Classical.not_not.1 c78
 have ck_ : exV lo (d + 1) k = true := by simpa using c78
 refine zsk <| zrg <| zpn 1 <| zar ((j : Int) + 1) <| zkp [(1, (.int .i64 lo)), (2, (.int .i64 d)), (4, (pT b1 0)), (14, (.int .i64 inn)), (122, (.int .i64 ((j : Int) + 1)))] <| zpn 1 <| zfe ?_
 intro aC fr
 exact ⟨x.exprs.length - (j + 1), by omega, j + 1, rfl, fr.kp [1, 2, 4, 14, 15], M77, by omega, hr.trans (by rw [exsV_at hk, ck_, Bool.true_and])⟩
 refine zex 1 <| zbh <| zsr ?_
 have hi1_ : 0 ≤ inn ∧ inn ≤ d + 1 := by rw [hin]; unfold inner; split <;> omega
 refine zpn 1 <| zld ⟨b1, 3, none⟩ (.slice x.bA x.body.length x.bc) (blk_cell (M66.get 0 rfl) rfl) <| zpn 2 <| zar (d + 1) <| zpn 1 <| zcl (ihb x.bA x.bc lo (d + 1) inn T w65 (by omega) (by omega) hi1_.1 hi1_.2 (hT.at_ M66) hs.body hI.body hI.own.body) ?_
 rintro _ w82 ⟨rfl, M83x⟩
 have M83 := M66.cl M83x
 refine zpn 1 ?_
 obtain ⟨B84, hB84⟩ : ∃ B : Bool, B = (stsV lo inn (d + 1) x.body) := ⟨_, rfl⟩
 refine zkp [(1, (.int .i64 lo)), (2, (.int .i64 d)), (4, (pT b1 0)), (14, (.int .i64 inn)), (140, (.bool (stsV lo inn (d + 1) x.body)))] ?_
 rw [← hB84]
 have iB84 : B84 = true ↔ ((stsV lo inn (d + 1) x.body) = true) := by rw [hB84]
 clear hB84
 intro aC fr
 refine zpk 1 9 [141] fr (news := [(141, (cond B84 (pT b1 4) undef))]) (by cases B84 <;> kernel_rfl) ?_
 intro aC fr
 refine From_either (B := B84) (d := (some 142)) (.slice x.lA x.els.length x.lc) fr (by cases B84 <;> kernel_rfl) (fun hB hh => ?_) ?_
 cases B84 <;> first | (exact absurd hB (by decide)) | skip
 have c84 : ((stsV lo inn (d + 1) x.body) = true) := iB84.1 rfl
 exact From_ld (some 142) ⟨b1, 4, none⟩ fr (by kernel_rfl) (.slice x.lA x.els.length x.lc) (blk_cell (M83.get 0 rfl) rfl) hh
 intro aC fr
 refine zpk 2 12 [143, 144] fr (news := [(143, (cond B84 (.int .i64 lo) undef)), (144, (cond B84 (.int .i64 d) undef))]) (by cases B84 <;> kernel_rfl) ?_
 intro aC fr
 refine From_either (B := B84) (d := (some 145)) (.int .i64 (d + 1)) fr (by cases B84 <;> kernel_rfl) (fun hB hh => ?_) ?_
 cases B84 <;> first | (exact absurd hB (by decide)) | skip
 have c84 : ((stsV lo inn (d + 1) x.body) = true) := iB84.1 rfl
 exact From_ar (some 145) (d + 1) fr (z0 := d + 1) (by kernel_rfl) rfl (by omega) (by omega) hh
 intro aC fr
 refine zpk 1 14 [146] fr (news := [(146, (cond B84 (.int .i64 inn) undef))]) (by cases B84 <;> kernel_rfl) ?_
 intro aC fr
 refine From_eitherC (B := B84) (d := (some 147)) (.bool (stsV lo inn (d + 1) x.els)) fr (by cases B84 <;> kernel_rfl) (fun hB hh => ?_) ?_
 cases B84 <;> first | (exact absurd hB (by decide)) | skip
 have c84 : ((stsV lo inn (d + 1) x.body) = true) := iB84.1 rfl
 refine From_cl (some 147) 51 [(.slice x.lA x.els.length x.lc), (.int .i64 lo), (.int .i64 (d + 1)), (.int .i64 inn)] fr (by kernel_rfl) (ihl x.lA x.lc lo (d + 1) inn T w82 (by omega) (by omega) hi1_.1 hi1_.2 (hT.at_ M83) hs.els hI.els hI.own.els) ?_
 rintro _ w2 ⟨rfl, hm2⟩ a2 hF2; exact hh a2 w2 hm2 hF2
 intro aC w97 M98x fr
 have M98 := M83.cl M98x
 refine zpk 2 17 [8, 148] fr (news := [(8, (.bool (B84 && (stsV lo inn (d + 1) x.els)))), (148, (.bool (B84 && (stsV lo inn (d + 1) x.els))))]) (by cases B84 <;> kernel_rfl) ?_
 intro aC fr
 revert aC
 refine zfe <| zre <| zo1 (.bool (B84 && (stsV lo inn (d + 1) x.els))) ?_
 have M103 := M98.od [] 0
 exact ⟨congrArg Value.bool (show stV lo lp d x = (B84 && (stsV lo inn (d + 1) x.els)) by rw [stV_eq, decide_eq_true hok, hr, List.drop_eq_nil_of_le (by omega), exsV_nil, ← hin, Bool.true_and, Bool.true_and]; first | rfl | simp_all).symm, M103⟩
 revert aC
 refine zbk 0 <| zsp <| zcP ((x.op : Int) == 1) ((x.op : Int) = 1) (by simp only [beq_iff_eq]) (fun c104 => ?_) (fun c104 => ?_)
 refine zrg <| zpn 1 <| zld ⟨b1, 1, none⟩ (.int .i64 x.n) (blk_cell (M3.get 0 rfl) rfl) <| zkp [(1, (.int .i64 lo)), (2, (.int .i64 d)), (4, (pT b1 0)), (9, (.int .i64 1)), (10, (.int .i64 1)), (12, (.bool false)), (13, (.bool false)), (14, (.int .i64 lp)), (25, (.int .i64 x.n))] <| zpn 2 ?_
 obtain ⟨B105, hB105⟩ : ∃ B : Bool, B = decide ((x.n : Int) ≥ 0) := ⟨_, rfl⟩
 refine zkp [(1, (.int .i64 lo)), (2, (.int .i64 d)), (4, (pT b1 0)), (9, (.int .i64 1)), (10, (.int .i64 1)), (12, (.bool false)), (13, (.bool false)), (14, (.int .i64 lp)), (27, (.bool (decide ((x.n : Int) ≥ 0))))] ?_
 rw [← hB105]
 have iB105 : B105 = true ↔ ((x.n : Int) ≥ 0) := by rw [hB105]; simp only [decide_eq_true_eq]
 clear hB105
 intro aC fr
 refine zpk 1 5 [28] fr (news := [(28, (cond B105 (pT b1 1) undef))]) (by cases B105 <;> kernel_rfl) ?_
 intro aC fr
 refine From_either (B := B105) (d := (some 29)) (.int .i64 x.n) fr (by cases B105 <;> kernel_rfl) (fun hB hh => ?_) ?_
 cases B105 <;> first | (exact absurd hB (by decide)) | skip
 have c105 : ((x.n : Int) ≥ 0) := iB105.1 rfl
 exact From_ld (some 29) ⟨b1, 1, none⟩ fr (by kernel_rfl) (.int .i64 x.n) (blk_cell (M3.get 0 rfl) rfl) hh
 intro aC fr
 refine zpk 4 10 [11, 32] fr (news := [(11, (.bool (B105 && decide ((x.n : Int) < lo)))), (32, (.bool (B105 && decide ((x.n : Int) < lo))))]) (by cases B105 <;> kernel_rfl) ?_
 intro aC fr
 revert aC
 refine zfe ?_
 intro aC fr
 exact ⟨1, 1, (B105 && decide ((x.n : Int) < lo)), false, false, lp, fr.kp [1, 2, 4, 9, 10, 11, 12, 13, 14], M3, by rw [sfQ_1 (by omega), caseS_FF (show (B105 && decide ((x.n : Int) < lo)) = true ↔ (((x.n : Int) ≥ 0) ∧ ((x.n : Int) < lo)) by simp only [Bool.and_eq_true, decide_eq_true_eq, iB105])]; constructor <;> intro h_ <;> first | omega | exact h_.elim | exact h_.1.elim | exact ⟨trivial, by omega⟩ | exact ⟨by omega, by omega⟩, by unfold inner; split <;> omega⟩
 refine zsp <| zcP ((x.op : Int) == 2) ((x.op : Int) = 2) (by simp only [beq_iff_eq]) (fun c116 => ?_) (fun c116 => ?_)
 obtain ⟨B117, hB117⟩ : ∃ B : Bool, B = decide (x.n ≥ 0) := ⟨_, rfl⟩
 cases B117
 have c117 : ¬ (x.n ≥ 0) := of_decide_eq_false hB117.symm
 refine zkp [(1, (.int .i64 lo)), (2, (.int .i64 d)), (3, (.int .i64 lp)), (4, (pT b1 0)), (9, (.int .i64 1)), (10, (.int .i64 1)), (11, (.bool ((x.n : Int) == 0))), (12, (.bool false)), (13, (.bool false)), (14, (.int .i64 lp)), (21, (.int .i64 x.op))] ?_
 intro aC fr
 refine zdt 10 (N := 149) (env0 := [(1, (.int .i64 lo)), (2, (.int .i64 d)), (3, (.int .i64 lp)), (4, (pT b1 0)), (9, (.int .i64 1)), (10, (.int .i64 1)), (11, (.bool ((x.n : Int) == 0))), (12, (.bool false)), (13, (.bool false)), (14, (.int .i64 lp)), (21, (.int .i64 x.op))]) (specAt [.det (pT b1 1), .det (.int .i64 x.n), .det (.bool false), .det (.bool false), dU, dU, dU, .det (.bool false), .det (.int .i64 2), .det (.int .i64 2)]) fr (la (la (la (la (la (la (la (la (la (la lz dP) (dL ⟨b1, 1, none⟩ (.int .i64 x.n) fun w_ hK => (blk_cell ((M3.then_ hK).get 0 rfl) rfl))) (dC (decide (x.n ≥ 0)) hB117)) dP) dK) dK) dK) dP) dP) dP) ?_
 intro aC w122 vs hK hv fr
 revert aC; refine zkp [(1, (.int .i64 lo)), (2, (.int .i64 d)), (4, (pT b1 0)), (9, (.int .i64 2)), (10, (.int .i64 2)), (12, (.bool false)), (13, (.bool false)), (14, (.int .i64 lp)), (42, (.bool false))] ?_
 have M123 := M3.then_ hK
 clear hK hv fr aC M3; clear vs
 refine zpn 1 <| zfe ?_
 intro aC fr
 exact ⟨2, 2, false, false, false, lp, fr.kp [1, 2, 4, 9, 10, 11, 12, 13, 14], M123, by rw [sfQ_2 (by omega), caseS_FF litF']; constructor <;> intro h_ <;> first | omega | exact h_.elim | exact h_.1.elim | exact ⟨trivial, by omega⟩ | exact ⟨by omega, by omega⟩, by unfold inner; split <;> omega⟩
 have c117 : x.n ≥ 0 := of_decide_eq_true hB117.symm
 obtain ⟨B126, hB126⟩ : ∃ B : Bool, B = decide (x.n ≤ 2147483647) := ⟨_, rfl⟩
 refine zkp [(1, (.int .i64 lo)), (2, (.int .i64 d)), (3, (.int .i64 lp)), (4, (pT b1 0)), (9, (.int .i64 1)), (10, (.int .i64 1)), (11, (.bool ((x.n : Int) == 0))), (12, (.bool false)), (13, (.bool false)), (14, (.int .i64 lp)), (21, (.int .i64 x.op))] ?_
 intro aC fr
 refine zdt 10 (N := 149) (env0 := [(1, (.int .i64 lo)), (2, (.int .i64 d)), (3, (.int .i64 lp)), (4, (pT b1 0)), (9, (.int .i64 1)), (10, (.int .i64 1)), (11, (.bool ((x.n : Int) == 0))), (12, (.bool false)), (13, (.bool false)), (14, (.int .i64 lp)), (21, (.int .i64 x.op))]) (specAt [.det (pT b1 1), .det (.int .i64 x.n), .det (.bool true), .det (.bool true), .det (pT b1 1), .det (.int .i64 x.n), .det (.bool B126), .det (.bool B126), .det (.int .i64 2), .det (.int .i64 2)]) fr (la (la (la (la (la (la (la (la (la (la lz dP) (dL ⟨b1, 1, none⟩ (.int .i64 x.n) fun w_ hK => (blk_cell ((M3.then_ hK).get 0 rfl) rfl))) (dC (decide (x.n ≥ 0)) hB117)) dP) dP) (dL ⟨b1, 1, none⟩ (.int .i64 x.n) fun w_ hK => (blk_cell ((M3.then_ hK).get 0 rfl) rfl))) (dC (decide (x.n ≤ 2147483647)) hB126)) dP) dP) dP) ?_
 intro aC w131 vs hK hv fr
 revert aC; refine zkp [(1, (.int .i64 lo)), (2, (.int .i64 d)), (4, (pT b1 0)), (9, (.int .i64 2)), (10, (.int .i64 2)), (12, (.bool false)), (13, (.bool false)), (14, (.int .i64 lp)), (42, (.bool B126))] ?_
 have M132 := M3.then_ hK
 clear hK hv fr aC M3; clear vs
 have iB126 : B126 = true ↔ ((x.n : Int) ≤ 2147483647) := by rw [hB126]; simp only [decide_eq_true_eq]
 clear hB126
 refine zpn 1 <| zfe ?_
 intro aC fr
 exact ⟨2, 2, B126, false, false, lp, fr.kp [1, 2, 4, 9, 10, 11, 12, 13, 14], M132, by rw [sfQ_2 (by omega), caseS_FF (show B126 = true ↔ ((x.n : Int) ≤ 2147483647) by simp only [iB126])]; constructor <;> intro h_ <;> first | omega | exact h_.elim | exact h_.1.elim | exact ⟨trivial, by omega⟩ | exact ⟨by omega, by omega⟩, by unfold inner; split <;> omega⟩
 refine zsq <| zsp ?_
 obtain ⟨B135, hB135⟩ : ∃ B : Bool, B = ((x.op : Int) == 3) := ⟨_, rfl⟩
 refine zkp [(1, (.int .i64 lo)), (2, (.int .i64 d)), (3, (.int .i64 lp)), (4, (pT b1 0)), (9, (.int .i64 1)), (10, (.int .i64 1)), (11, (.bool ((x.n : Int) == 0))), (12, (.bool false)), (13, (.bool false)), (14, (.int .i64 lp)), (21, (.int .i64 x.op)), (43, (.bool ((x.op : Int) == 3)))] ?_
 rw [← hB135]
 have iB135 : B135 = true ↔ ((x.op : Int) = 3) := by rw [hB135]; simp only [beq_iff_eq]
 clear hB135
 cases B135
 have c135 : ¬ ((x.op : Int) = 3) := (fun h => Bool.noConfusion (iB135.2 h) : ¬ ((x.op : Int) = 3))
 refine zcF <| zrp <| zcP ((x.op : Int) == 4) ((x.op : Int) = 4) (by simp only [beq_iff_eq]) (fun c136 => ?_) (fun c136 => ?_)
 refine zsk ?_
 intro aC fr
 exact ⟨1, 1, ((x.n : Int) == 0), false, false, lp, fr.kp [1, 2, 4, 9, 10, 11, 12, 13, 14], M3, by rw [sfQ_4 (by omega), caseS_FF (show ((x.n : Int) == 0) = true ↔ ((x.n : Int) = 0) by simp only [beq_iff_eq])]; constructor <;> intro h_ <;> first | omega | exact h_.elim | exact h_.1.elim | exact ⟨trivial, by omega⟩ | exact ⟨by omega, by omega⟩, by unfold inner; split <;> omega⟩
 refine zsp <| zcP ((x.op : Int) == 5) ((x.op : Int) = 5) (by simp only [beq_iff_eq]) (fun c139 => ?_) (fun c139 => ?_)
 refine zrp ?_
 intro aC fr
 exact ⟨1, 1, ((x.n : Int) == 0), true, true, lp, fr.kp [1, 2, 4, 9, 10, 11, 12, 13, 14], M3, by rw [sfQ_5 (by omega), caseS_TT (show ((x.n : Int) == 0) = true ↔ ((x.n : Int) = 0) by simp only [beq_iff_eq])]; constructor <;> intro h_ <;> first | omega | exact h_.elim | exact h_.1.elim | exact ⟨trivial, by omega⟩ | exact ⟨by omega, by omega⟩, by unfold inner; split <;> omega⟩
 refine zsp <| zcP ((x.op : Int) == 6) ((x.op : Int) = 6) (by simp only [beq_iff_eq]) (fun c142 => ?_) (fun c142 => ?_)
 refine zrg <| zpn 1 <| zar (lp + 1) <| zpn 4 <| zfe ?_
 intro aC fr
 exact ⟨0, 0, ((x.n : Int) == 0), true, false, (lp + 1), fr.kp [1, 2, 4, 9, 10, 11, 12, 13, 14], M3, by rw [sfQ_6 (by omega), caseS_TF (show ((x.n : Int) == 0) = true ↔ ((x.n : Int) = 0) by simp only [beq_iff_eq])]; constructor <;> intro h_ <;> first | omega | exact h_.elim | exact h_.1.elim | exact ⟨trivial, by omega⟩ | exact ⟨by omega, by omega⟩, by unfold inner; split <;> omega⟩
 refine zsq <| zsp ?_
 obtain ⟨B145, hB145⟩ : ∃ B : Bool, B = ((x.op : Int) == 7) := ⟨_, rfl⟩
 refine zkp [(1, (.int .i64 lo)), (2, (.int .i64 d)), (3, (.int .i64 lp)), (4, (pT b1 0)), (10, (.int .i64 1)), (11, (.bool ((x.n : Int) == 0))), (12, (.bool false)), (13, (.bool false)), (14, (.int .i64 lp)), (21, (.int .i64 x.op)), (52, (.bool ((x.op : Int) == 7)))] ?_
 rw [← hB145]
 have iB145 : B145 = true ↔ ((x.op : Int) = 7) := by rw [hB145]; simp only [beq_iff_eq]
 clear hB145
 cases B145
 have c145 : ¬ ((x.op : Int) = 7) := (fun h => Bool.noConfusion (iB145.2 h) : ¬ ((x.op : Int) = 7))
 refine zcF <| zrp <| zcP ((x.op : Int) == 8) ((x.op : Int) = 8) (by simp only [beq_iff_eq]) (fun c146 => ?_) (fun c146 => ?_)
 obtain ⟨B147, hB147⟩ : ∃ B : Bool, B = decide (x.n ≥ 0) := ⟨_, rfl⟩
 cases B147
 have c147 : ¬ (x.n ≥ 0) := of_decide_eq_false hB147.symm
 refine zkp [(1, (.int .i64 lo)), (2, (.int .i64 d)), (3, (.int .i64 lp)), (4, (pT b1 0)), (10, (.int .i64 1)), (11, (.bool ((x.n : Int) == 0))), (12, (.bool false)), (13, (.bool false)), (14, (.int .i64 lp)), (21, (.int .i64 x.op))] ?_
 intro aC fr
 refine zdt 11 (N := 149) (env0 := [(1, (.int .i64 lo)), (2, (.int .i64 d)), (3, (.int .i64 lp)), (4, (pT b1 0)), (10, (.int .i64 1)), (11, (.bool ((x.n : Int) == 0))), (12, (.bool false)), (13, (.bool false)), (14, (.int .i64 lp)), (21, (.int .i64 x.op))]) (specAt [.det (pT b1 1), .det (.int .i64 x.n), .det (.bool false), .det (.bool false), dU, dU, dU, dU, .det (.bool false), .det (.int .i64 0), .det (.int .i64 0)]) fr (la (la (la (la (la (la (la (la (la (la (la lz dP) (dL ⟨b1, 1, none⟩ (.int .i64 x.n) fun w_ hK => (blk_cell ((M3.then_ hK).get 0 rfl) rfl))) (dC (decide (x.n ≥ 0)) hB147)) dP) dK) dK) dK) dK) dP) dP) dP) ?_
 intro aC w152 vs hK hv fr
 revert aC; refine zkp [(1, (.int .i64 lo)), (2, (.int .i64 d)), (4, (pT b1 0)), (9, (.int .i64 0)), (10, (.int .i64 0)), (12, (.bool false)), (13, (.bool false)), (14, (.int .i64 lp)), (63, (.bool false))] ?_
 have M153 := M3.then_ hK
 clear hK hv fr aC M3; clear vs
 refine zpn 1 <| zfe ?_
 intro aC fr
 exact ⟨0, 0, false, false, false, lp, fr.kp [1, 2, 4, 9, 10, 11, 12, 13, 14], M153, by rw [sfQ_8 (by omega), caseS_FF litF']; constructor <;> intro h_ <;> first | omega | exact h_.elim | exact h_.1.elim | exact ⟨trivial, by omega⟩ | exact ⟨by omega, by omega⟩, by unfold inner; split <;> omega⟩
 have c147 : x.n ≥ 0 := of_decide_eq_true hB147.symm
 obtain ⟨B156, hB156⟩ : ∃ B : Bool, B = decide (x.n < lp) := ⟨_, rfl⟩
 refine zkp [(1, (.int .i64 lo)), (2, (.int .i64 d)), (3, (.int .i64 lp)), (4, (pT b1 0)), (10, (.int .i64 1)), (11, (.bool ((x.n : Int) == 0))), (12, (.bool false)), (13, (.bool false)), (14, (.int .i64 lp)), (21, (.int .i64 x.op))] ?_
 intro aC fr
 refine zdt 11 (N := 149) (env0 := [(1, (.int .i64 lo)), (2, (.int .i64 d)), (3, (.int .i64 lp)), (4, (pT b1 0)), (10, (.int .i64 1)), (11, (.bool ((x.n : Int) == 0))), (12, (.bool false)), (13, (.bool false)), (14, (.int .i64 lp)), (21, (.int .i64 x.op))]) (specAt [.det (pT b1 1), .det (.int .i64 x.n), .det (.bool true), .det (.bool true), .det (pT b1 1), .det (.int .i64 x.n), .det (.int .i64 lp), .det (.bool B156), .det (.bool B156), .det (.int .i64 0), .det (.int .i64 0)]) fr (la (la (la (la (la (la (la (la (la (la (la lz dP) (dL ⟨b1, 1, none⟩ (.int .i64 x.n) fun w_ hK => (blk_cell ((M3.then_ hK).get 0 rfl) rfl))) (dC (decide (x.n ≥ 0)) hB147)) dP) dP) (dL ⟨b1, 1, none⟩ (.int .i64 x.n) fun w_ hK => (blk_cell ((M3.then_ hK).get 0 rfl) rfl))) dP) (dC (decide (x.n < lp)) hB156)) dP) dP) dP) ?_
 intro aC w161 vs hK hv fr
 revert aC; refine zkp [(1, (.int .i64 lo)), (2, (.int .i64 d)), (4, (pT b1 0)), (9, (.int .i64 0)), (10, (.int .i64 0)), (12, (.bool false)), (13, (.bool false)), (14, (.int .i64 lp)), (63, (.bool B156))] ?_
 have M162 := M3.then_ hK
 clear hK hv fr aC M3; clear vs
 have iB156 : B156 = true ↔ ((x.n : Int) < lp) := by rw [hB156]; simp only [decide_eq_true_eq]
 clear hB156
 refine zpn 1 <| zfe ?_
 intro aC fr
 exact ⟨0, 0, B156, false, false, lp, fr.kp [1, 2, 4, 9, 10, 11, 12, 13, 14], M162, by rw [sfQ_8 (by omega), caseS_FF (show B156 = true ↔ ((x.n : Int) < lp) by simp only [iB156])]; constructor <;> intro h_ <;> first | omega | exact h_.elim | exact h_.1.elim | exact ⟨trivial, by omega⟩ | exact ⟨by omega, by omega⟩, by unfold inner; split <;> omega⟩
 refine zsp <| zcP ((x.op : Int) == 9) ((x.op : Int) = 9) (by simp only [beq_iff_eq]) (fun c165 => ?_) (fun c165 => ?_)
 refine zrp ?_
 intro aC fr
 exact ⟨0, 1, ((x.n : Int) == 0), false, false, lp, fr.kp [1, 2, 4, 9, 10, 11, 12, 13, 14], M3, by rw [sfQ_9 (by omega), caseS_FF (show ((x.n : Int) == 0) = true ↔ ((x.n : Int) = 0) by simp only [beq_iff_eq])]; constructor <;> intro h_ <;> first | omega | exact h_.elim | exact h_.1.elim | exact ⟨trivial, by omega⟩ | exact ⟨by omega, by omega⟩, by unfold inner; split <;> omega⟩
 refine zsp <| zcP ((x.op : Int) == 10) ((x.op : Int) = 10) (by simp only [beq_iff_eq]) (fun c168 => ?_) (fun c168 => ?_)
 obtain ⟨B169, hB169⟩ : ∃ B : Bool, B = decide (x.n ≥ 1) := ⟨_, rfl⟩
 cases B169
 have c169 : ¬ (x.n ≥ 1) := of_decide_eq_false hB169.symm
 refine zkp [(1, (.int .i64 lo)), (2, (.int .i64 d)), (4, (pT b1 0)), (12, (.bool false)), (13, (.bool false)), (14, (.int .i64 lp))] ?_
 intro aC fr
 refine zdt 10 (N := 149) (env0 := [(1, (.int .i64 lo)), (2, (.int .i64 d)), (4, (pT b1 0)), (12, (.bool false)), (13, (.bool false)), (14, (.int .i64 lp))]) (specAt [.det (pT b1 1), .det (.int .i64 x.n), .det (.bool false), .det (.bool false), dU, dU, dU, .det (.bool false), .det (.int .i64 0), .det (.int .i64 0)]) fr (la (la (la (la (la (la (la (la (la (la lz dP) (dL ⟨b1, 1, none⟩ (.int .i64 x.n) fun w_ hK => (blk_cell ((M3.then_ hK).get 0 rfl) rfl))) (dC (decide (x.n ≥ 1)) hB169)) dP) dK) dK) dK) dP) dP) dP) ?_
 intro aC w174 vs hK hv fr
 revert aC; refine zkp [(1, (.int .i64 lo)), (2, (.int .i64 d)), (4, (pT b1 0)), (9, (.int .i64 0)), (10, (.int .i64 0)), (12, (.bool false)), (13, (.bool false)), (14, (.int .i64 lp)), (75, (.bool false))] ?_
 have M175 := M3.then_ hK
 clear hK hv fr aC M3; clear vs
 refine zpn 1 <| zfe ?_
 intro aC fr
 exact ⟨0, 0, false, false, false, lp, fr.kp [1, 2, 4, 9, 10, 11, 12, 13, 14], M175, by rw [sfQ_10 (by omega), caseS_FF litF']; constructor <;> intro h_ <;> first | omega | exact h_.elim | exact h_.1.elim | exact ⟨trivial, by omega⟩ | exact ⟨by omega, by omega⟩, by unfold inner; split <;> omega⟩
 have c169 : x.n ≥ 1 := of_decide_eq_true hB169.symm
 obtain ⟨B178, hB178⟩ : ∃ B : Bool, B = decide (x.n ≤ 999) := ⟨_, rfl⟩
 refine zkp [(1, (.int .i64 lo)), (2, (.int .i64 d)), (4, (pT b1 0)), (12, (.bool false)), (13, (.bool false)), (14, (.int .i64 lp))] ?_
 intro aC fr
 refine zdt 10 (N := 149) (env0 := [(1, (.int .i64 lo)), (2, (.int .i64 d)), (4, (pT b1 0)), (12, (.bool false)), (13, (.bool false)), (14, (.int .i64 lp))]) (specAt [.det (pT b1 1), .det (.int .i64 x.n), .det (.bool true), .det (.bool true), .det (pT b1 1), .det (.int .i64 x.n), .det (.bool B178), .det (.bool B178), .det (.int .i64 0), .det (.int .i64 0)]) fr (la (la (la (la (la (la (la (la (la (la lz dP) (dL ⟨b1, 1, none⟩ (.int .i64 x.n) fun w_ hK => (blk_cell ((M3.then_ hK).get 0 rfl) rfl))) (dC (decide (x.n ≥ 1)) hB169)) dP) dP) (dL ⟨b1, 1, none⟩ (.int .i64 x.n) fun w_ hK => (blk_cell ((M3.then_ hK).get 0 rfl) rfl))) (dC (decide (x.n ≤ 999)) hB178)) dP) dP) dP) ?_
 intro aC w183 vs hK hv fr
 revert aC; refine zkp [(1, (.int .i64 lo)), (2, (.int .i64 d)), (4, (pT b1 0)), (9, (.int .i64 0)), (10, (.int .i64 0)), (12, (.bool false)), (13, (.bool false)), (14, (.int .i64 lp)), (75, (.bool B178))] ?_
 have M184 := M3.then_ hK
 clear hK hv fr aC M3; clear vs
 have iB178 : B178 = true ↔ ((x.n : Int) ≤ 999) := by rw [hB178]; simp only [decide_eq_true_eq]
 clear hB178
 refine zpn 1 <| zfe ?_
 intro aC fr
 exact ⟨0, 0, B178, false, false, lp, fr.kp [1, 2, 4, 9, 10, 11, 12, 13, 14], M184, by rw [sfQ_10 (by omega), caseS_FF (show B178 = true ↔ ((x.n : Int) ≤ 999) by simp only [iB178])]; constructor <;> intro h_ <;> first | omega | exact h_.elim | exact h_.1.elim | exact ⟨trivial, by omega⟩ | exact ⟨by omega, by omega⟩, by unfold inner; split <;> omega⟩
 refine zsp <| zre <| zbr <| zo1 (.bool false) ?_
 have M187 := M3.od [] 0
 exact ⟨congrArg Value.bool (show stV lo lp d x = false by rw [stV_eq, decide_eq_false (fun h_ => by have h2_ := sfQ_rng h_.2; omega), Bool.false_and]).symm, M187⟩
 have c145 : ((x.op : Int) = 7) := iB145.1 rfl
 refine zcT <| zsk <| zcT ?_
 obtain ⟨B188, hB188⟩ : ∃ B : Bool, B = decide (x.n ≥ 0) := ⟨_, rfl⟩
 cases B188
 have c188 : ¬ (x.n ≥ 0) := of_decide_eq_false hB188.symm
 refine zkp [(1, (.int .i64 lo)), (2, (.int .i64 d)), (3, (.int .i64 lp)), (4, (pT b1 0)), (10, (.int .i64 1)), (11, (.bool ((x.n : Int) == 0))), (12, (.bool false)), (13, (.bool false)), (14, (.int .i64 lp)), (21, (.int .i64 x.op)), (52, (.bool true))] ?_
 intro aC fr
 refine zdt 11 (N := 149) (env0 := [(1, (.int .i64 lo)), (2, (.int .i64 d)), (3, (.int .i64 lp)), (4, (pT b1 0)), (10, (.int .i64 1)), (11, (.bool ((x.n : Int) == 0))), (12, (.bool false)), (13, (.bool false)), (14, (.int .i64 lp)), (21, (.int .i64 x.op)), (52, (.bool true))]) (specAt [.det (pT b1 1), .det (.int .i64 x.n), .det (.bool false), .det (.bool false), dU, dU, dU, dU, .det (.bool false), .det (.int .i64 0), .det (.int .i64 0)]) fr (la (la (la (la (la (la (la (la (la (la (la lz dP) (dL ⟨b1, 1, none⟩ (.int .i64 x.n) fun w_ hK => (blk_cell ((M3.then_ hK).get 0 rfl) rfl))) (dC (decide (x.n ≥ 0)) hB188)) dP) dK) dK) dK) dK) dP) dP) dP) ?_
 intro aC w193 vs hK hv fr
 revert aC; refine zkp [(1, (.int .i64 lo)), (2, (.int .i64 d)), (4, (pT b1 0)), (9, (.int .i64 0)), (10, (.int .i64 0)), (12, (.bool false)), (13, (.bool false)), (14, (.int .i64 lp)), (63, (.bool false))] ?_
 have M194 := M3.then_ hK
 clear hK hv fr aC M3; clear vs
 refine zpn 1 <| zfe ?_
 intro aC fr
 exact ⟨0, 0, false, false, false, lp, fr.kp [1, 2, 4, 9, 10, 11, 12, 13, 14], M194, by rw [sfQ_7 (by omega), caseS_FF litF']; constructor <;> intro h_ <;> first | omega | exact h_.elim | exact h_.1.elim | exact ⟨trivial, by omega⟩ | exact ⟨by omega, by omega⟩, by unfold inner; split <;> omega⟩
 have c188 : x.n ≥ 0 := of_decide_eq_true hB188.symm
 obtain ⟨B197, hB197⟩ : ∃ B : Bool, B = decide (x.n < lp) := ⟨_, rfl⟩
 refine zkp [(1, (.int .i64 lo)), (2, (.int .i64 d)), (3, (.int .i64 lp)), (4, (pT b1 0)), (10, (.int .i64 1)), (11, (.bool ((x.n : Int) == 0))), (12, (.bool false)), (13, (.bool false)), (14, (.int .i64 lp)), (21, (.int .i64 x.op)), (52, (.bool true))] ?_
 intro aC fr
 refine zdt 11 (N := 149) (env0 := [(1, (.int .i64 lo)), (2, (.int .i64 d)), (3, (.int .i64 lp)), (4, (pT b1 0)), (10, (.int .i64 1)), (11, (.bool ((x.n : Int) == 0))), (12, (.bool false)), (13, (.bool false)), (14, (.int .i64 lp)), (21, (.int .i64 x.op)), (52, (.bool true))]) (specAt [.det (pT b1 1), .det (.int .i64 x.n), .det (.bool true), .det (.bool true), .det (pT b1 1), .det (.int .i64 x.n), .det (.int .i64 lp), .det (.bool B197), .det (.bool B197), .det (.int .i64 0), .det (.int .i64 0)]) fr (la (la (la (la (la (la (la (la (la (la (la lz dP) (dL ⟨b1, 1, none⟩ (.int .i64 x.n) fun w_ hK => (blk_cell ((M3.then_ hK).get 0 rfl) rfl))) (dC (decide (x.n ≥ 0)) hB188)) dP) dP) (dL ⟨b1, 1, none⟩ (.int .i64 x.n) fun w_ hK => (blk_cell ((M3.then_ hK).get 0 rfl) rfl))) dP) (dC (decide (x.n < lp)) hB197)) dP) dP) dP) ?_
 intro aC w202 vs hK hv fr
 revert aC; refine zkp [(1, (.int .i64 lo)), (2, (.int .i64 d)), (4, (pT b1 0)), (9, (.int .i64 0)), (10, (.int .i64 0)), (12, (.bool false)), (13, (.bool false)), (14, (.int .i64 lp)), (63, (.bool B197))] ?_
 have M203 := M3.then_ hK
 clear hK hv fr aC M3; clear vs
 have iB197 : B197 = true ↔ ((x.n : Int) < lp) := by rw [hB197]; simp only [decide_eq_true_eq]
 clear hB197
 refine zpn 1 <| zfe ?_
 intro aC fr
 exact ⟨0, 0, B197, false, false, lp, fr.kp [1, 2, 4, 9, 10, 11, 12, 13, 14], M203, by rw [sfQ_7 (by omega), caseS_FF (show B197 = true ↔ ((x.n : Int) < lp) by simp only [iB197])]; constructor <;> intro h_ <;> first | omega | exact h_.elim | exact h_.1.elim | exact ⟨trivial, by omega⟩ | exact ⟨by omega, by omega⟩, by unfold inner; split <;> omega⟩
 have c135 : ((x.op : Int) = 3) := iB135.1 rfl
 refine zcT <| zsk <| zcT <| zsk ?_
 intro aC fr
 exact ⟨1, 1, ((x.n : Int) == 0), false, false, lp, fr.kp [1, 2, 4, 9, 10, 11, 12, 13, 14], M3, by rw [sfQ_3 (by omega), caseS_FF (show ((x.n : Int) == 0) = true ↔ ((x.n : Int) = 0) by simp only [beq_iff_eq])]; constructor <;> intro h_ <;> first | omega | exact h_.elim | exact h_.1.elim | exact ⟨trivial, by omega⟩ | exact ⟨by omega, by omega⟩, by unfold inner; split <;> omega⟩
theorem rsts_c (l : List MSt) (ih : ∀ x, x ∈ l → RSxOk Try.prog x) (A : Option Addr) (c : Nat) (lo d lp : Int) (T : List Res) (w : World) (hd0 : 0 ≤ d) (hd : d ≤ 1000) (hp0 : 0 ≤ lp) (hpd : lp ≤ d) (hT : RO noS w (.all T)) (hs : SubXs T A l) (hI : stsI l) (hll : LenOk l.length) :
    Calls Try.prog 51 #[(.slice A l.length c), (.int .i64 lo), (.int .i64 d), (.int .i64 lp)] w (Ret fun v w' => v = .bool (stsV lo lp d l) ∧ Mem noS w w' []) := by
 unfold LenOk at hll
 refine zen 25 [(.slice A l.length c), (.int .i64 lo), (.int .i64 d), (.int .i64 lp)] Try.func51 ?_
 have hM := Mem.init w
 refine zsp <| zsq <| zsp <| zbk 0 ?_
 intro aC fr
 refine zlp (fun n_ a_ w_ => ∃ (j : Nat), n_ = l.length - j ∧ Fr a_ 25 [(0, (.slice A l.length c)), (1, (.int .i64 lo)), (2, (.int .i64 d)), (3, (.int .i64 lp)), (9, (nV j))] ∧ Mem noS w w_ [] ∧ (j ≤ l.length) ∧ (stsV lo lp d l = stsV lo lp d (l.drop j))) (n := _) ⟨0, rfl, fr.kp [0, 1, 2, 3, 9], hM, Nat.zero_le _, (by rw [List.drop_zero])⟩ ?_
 clear fr aC hM; rintro n aC w3 ⟨j, rfl, fr, M4, hj, hr⟩
 revert aC
 refine zsq <| zsp <| zcD (((j : Int) : Int) < ((l.length : Nat) : Int)) (fun c7 => ?_) (fun c7 => ?_)
 refine zsk <| zsq <| zbk 1 <| zsr ?_
 obtain ⟨x, hx⟩ := get_of (l := l) (i := j) (by omega)
 have hxm := List.mem_of_getElem? hx
 refine zpn 2 ?_
 obtain ⟨ad8, rfl⟩ := rds_some (M4.ro (hT.sub hs.1)) (cs := x.cells) (i := j) (by rw [List.getElem?_map, hx]; rfl)
 refine zix ad8 l.length 5 (j : Int) ?_
 refine zls ((ad8 : Addr).add (((j : Int)).toNat * 5)) [(.int .i64 x.op), (.int .i64 x.n), (.slice x.eA x.exprs.length x.ec), (.slice x.bA x.body.length x.bc), (.slice x.lA x.els.length x.lc)] (rds_cells (i := j) (M4.ro (hT.sub hs.1)) rfl (by rw [List.getElem?_map, hx]; rfl)) ?_
 refine zpn 3 <| zcl (ih x hxm lo d lp T w3 hd0 hd hp0 hpd (hT.at_ M4) (hs.2 x hxm) (stsI_mem hI hxm)) ?_
 rintro _ w9 ⟨rfl, M10x⟩
 have M10 := M4.cl M10x
 refine zpn 1 <| zfe <| zcP (!(stV lo lp d x)) (¬ ((stV lo lp d x) = true)) (by simp only [notT]) (fun c11 => ?_) (fun c11 => ?_)
 replace c11 : (stV lo lp d x) = false := Bool.eq_false_iff.2 c11
 have ck_ : stV lo lp d x = false := by simpa using c11
 refine zsp <| zre <| zbr <| zbr <| zo1 (.bool false) ?_
 exact ⟨congrArg Value.bool (hr.trans (by rw [stsV_at hx, ck_, Bool.false_and])).symm, M10⟩
 replace c11 : (stV lo lp d x) = true := Classical.not_not.1 c11
 have ck_ : stV lo lp d x = true := by simpa using c11
 refine zsk <| zrg <| zpn 1 <| zar ((j : Int) + 1) <| zpn 1 <| zfe ?_
 intro aC fr
 exact ⟨l.length - (j + 1), by omega, j + 1, rfl, fr.kp [0, 1, 2, 3, 9], M10, by omega, hr.trans (by rw [stsV_at hx, ck_, Bool.true_and])⟩
 refine zex 0 <| zbh <| zsp <| zre <| zo1 (.bool true) ?_
 exact ⟨congrArg Value.bool (hr.trans (by rw [List.drop_eq_nil_of_le (by omega), stsV_nil])).symm, M4⟩
theorem rsts_step (l : List MSt) (ih : ∀ x, x ∈ l → RSxOk Try.prog x) : RStOk Try.prog l := fun A c lo d lp T w h0 h1 h2 h3 hT hs hI hll => rsts_c l ih A c lo d lp T w h0 h1 h2 h3 hT hs hI hll
theorem rstx_all (x : MSt) : RSxOk Try.prog x := MSt.ind (p := fun x => RSxOk Try.prog x) (fun x hb hl lo d lp T w h0 h1 h2 h3 hT hs hI => rstv_c x (rsts_step x.body hb) (rsts_step x.els hl) lo d lp T w h0 h1 h2 h3 hT hs hI) x
theorem rsts_all (l : List MSt) : RStOk Try.prog l := rsts_step l (fun x _ => rstx_all x)
end Go.Proofs.Ytdcgcjibgihbbaa
namespace Go.Proofs.Ytdcgcjibgihbbaa
open Go.Mor
theorem rfunc_d (f : TFn) (T : List Res) (w : World) (hT : RO noS w (.all T)) (hs : SubXs T f.A f.body) (hI : f.In) :
    Calls Try.prog 32 #[(.agg #[(.string f.nm), (.bool f.wk), (.int .i64 f.pa), (.int .i64 f.lo), (.slice f.A f.body.length f.c)])] w (Ret fun v w' => v = .bool (decide (fnV f = true)) ∧ Mem noS w w' []) := by
 have hnl := hI.nm
 unfold LenOk at hnl
 refine zen 35 [(.agg #[(.string f.nm), (.bool f.wk), (.int .i64 f.pa), (.int .i64 f.lo), (.slice f.A f.body.length f.c)])] Try.func32 ?_
 have hM := Mem.init w
 refine zsr <| zbx hM 45 (.agg #[(.string f.nm), (.bool f.wk), (.int .i64 f.pa), (.int .i64 f.lo), (.slice f.A f.body.length f.c)]) [(.string f.nm), (.bool f.wk), (.int .i64 f.pa), (.int .i64 f.lo), (.slice f.A f.body.length f.c)] fun b1 w2 hb1 M3 => ?_
 replace M3 := M3.nf
 clear hM
 refine zpn 1 <| zfe <| zsr <| zpn 1 <| zld ⟨b1, 0, none⟩ (.string f.nm) (blk_cell (M3.get 0 rfl) rfl) <| zcl (rname_c f.nm w2) ?_
 rintro _ w4 ⟨rfl, M5x⟩
 have M5 := M3.cl M5x
 refine zpn 1 ?_
 obtain ⟨B6, hB6⟩ : ∃ B : Bool, B = decide (nameQ f.nm) := ⟨_, rfl⟩
 refine zkp [(1, (pT b1 0)), (6, (.bool (decide (nameQ f.nm))))] ?_
 rw [← hB6]
 have iB6 : B6 = true ↔ (nameQ f.nm) := by rw [hB6]; simp only [decide_eq_true_eq]
 clear hB6
 intro aC fr
 refine zpk 1 5 [7] fr (news := [(7, (cond B6 (pT b1 2) undef))]) (by cases B6 <;> kernel_rfl) ?_
 intro aC fr
 refine From_either (B := B6) (d := (some 8)) (.int .i64 f.pa) fr (by cases B6 <;> kernel_rfl) (fun hB hh => ?_) ?_
 cases B6 <;> first | (exact absurd hB (by decide)) | skip
 have c6 : (nameQ f.nm) := iB6.1 rfl
 exact From_ld (some 8) ⟨b1, 2, none⟩ fr (by kernel_rfl) (.int .i64 f.pa) (blk_cell (M5.get 0 rfl) rfl) hh
 intro aC fr
 refine zpk 3 9 [10, 11] fr (news := [(10, (.bool (B6 && decide ((f.pa : Int) ≥ 0)))), (11, (.bool (B6 && decide ((f.pa : Int) ≥ 0))))]) (by cases B6 <;> kernel_rfl) ?_
 intro aC fr
 obtain ⟨B15, hB15⟩ : ∃ B : Bool, B = (B6 && decide ((f.pa : Int) ≥ 0)) := ⟨_, rfl⟩
 revert aC
 refine zkp [(1, (pT b1 0)), (11, (.bool (B6 && decide ((f.pa : Int) ≥ 0))))] ?_
 rw [← hB15]
 have iB15 : B15 = true ↔ ((nameQ f.nm) ∧ ((f.pa : Int) ≥ 0)) := by rw [hB15]; simp only [Bool.and_eq_true, decide_eq_true_eq, iB6]
 clear hB15
 intro aC fr
 refine zpk 1 10 [12] fr (news := [(12, (cond B15 (pT b1 2) undef))]) (by cases B15 <;> kernel_rfl) ?_
 intro aC fr
 refine From_either (B := B15) (d := (some 13)) (.int .i64 f.pa) fr (by cases B15 <;> kernel_rfl) (fun hB hh => ?_) ?_
 cases B15 <;> first | (exact absurd hB (by decide)) | skip
 have c15 : ((nameQ f.nm) ∧ ((f.pa : Int) ≥ 0)) := iB15.1 rfl
 exact From_ld (some 13) ⟨b1, 2, none⟩ fr (by kernel_rfl) (.int .i64 f.pa) (blk_cell (M5.get 0 rfl) rfl) hh
 intro aC fr
 refine zpk 3 14 [15, 16] fr (news := [(15, (.bool (B15 && decide ((f.pa : Int) ≤ 16)))), (16, (.bool (B15 && decide ((f.pa : Int) ≤ 16))))]) (by cases B15 <;> kernel_rfl) ?_
 intro aC fr
 obtain ⟨B24, hB24⟩ : ∃ B : Bool, B = (B15 && decide ((f.pa : Int) ≤ 16)) := ⟨_, rfl⟩
 revert aC
 refine zkp [(1, (pT b1 0)), (16, (.bool (B15 && decide ((f.pa : Int) ≤ 16))))] ?_
 rw [← hB24]
 have iB24 : B24 = true ↔ (((nameQ f.nm) ∧ ((f.pa : Int) ≥ 0)) ∧ ((f.pa : Int) ≤ 16)) := by rw [hB24]; simp only [Bool.and_eq_true, decide_eq_true_eq, iB15]
 clear hB24
 intro aC fr
 refine zpk 1 15 [17] fr (news := [(17, (cond B24 (pT b1 3) undef))]) (by cases B24 <;> kernel_rfl) ?_
 intro aC fr
 refine From_either (B := B24) (d := (some 18)) (.int .i64 f.lo) fr (by cases B24 <;> kernel_rfl) (fun hB hh => ?_) ?_
 cases B24 <;> first | (exact absurd hB (by decide)) | skip
 have c24 : (((nameQ f.nm) ∧ ((f.pa : Int) ≥ 0)) ∧ ((f.pa : Int) ≤ 16)) := iB24.1 rfl
 exact From_ld (some 18) ⟨b1, 3, none⟩ fr (by kernel_rfl) (.int .i64 f.lo) (blk_cell (M5.get 0 rfl) rfl) hh
 intro aC fr
 refine zpk 1 17 [19] fr (news := [(19, (cond B24 (pT b1 2) undef))]) (by cases B24 <;> kernel_rfl) ?_
 intro aC fr
 refine From_either (B := B24) (d := (some 20)) (.int .i64 f.pa) fr (by cases B24 <;> kernel_rfl) (fun hB hh => ?_) ?_
 cases B24 <;> first | (exact absurd hB (by decide)) | skip
 have c24 : (((nameQ f.nm) ∧ ((f.pa : Int) ≥ 0)) ∧ ((f.pa : Int) ≤ 16)) := iB24.1 rfl
 exact From_ld (some 20) ⟨b1, 2, none⟩ fr (by kernel_rfl) (.int .i64 f.pa) (blk_cell (M5.get 0 rfl) rfl) hh
 intro aC fr
 refine zpk 3 21 [22, 23] fr (news := [(22, (.bool (B24 && decide ((f.lo : Int) ≥ f.pa)))), (23, (.bool (B24 && decide ((f.lo : Int) ≥ f.pa))))]) (by cases B24 <;> kernel_rfl) ?_
 intro aC fr
 obtain ⟨B37, hB37⟩ : ∃ B : Bool, B = (B24 && decide ((f.lo : Int) ≥ f.pa)) := ⟨_, rfl⟩
 revert aC
 refine zkp [(1, (pT b1 0)), (23, (.bool (B24 && decide ((f.lo : Int) ≥ f.pa))))] ?_
 rw [← hB37]
 have iB37 : B37 = true ↔ ((((nameQ f.nm) ∧ ((f.pa : Int) ≥ 0)) ∧ ((f.pa : Int) ≤ 16)) ∧ ((f.lo : Int) ≥ f.pa)) := by rw [hB37]; simp only [Bool.and_eq_true, decide_eq_true_eq, iB24]
 clear hB37
 intro aC fr
 refine zpk 1 22 [24] fr (news := [(24, (cond B37 (pT b1 3) undef))]) (by cases B37 <;> kernel_rfl) ?_
 intro aC fr
 refine From_either (B := B37) (d := (some 25)) (.int .i64 f.lo) fr (by cases B37 <;> kernel_rfl) (fun hB hh => ?_) ?_
 cases B37 <;> first | (exact absurd hB (by decide)) | skip
 have c37 : ((((nameQ f.nm) ∧ ((f.pa : Int) ≥ 0)) ∧ ((f.pa : Int) ≤ 16)) ∧ ((f.lo : Int) ≥ f.pa)) := iB37.1 rfl
 exact From_ld (some 25) ⟨b1, 3, none⟩ fr (by kernel_rfl) (.int .i64 f.lo) (blk_cell (M5.get 0 rfl) rfl) hh
 intro aC fr
 refine zpk 3 26 [27, 28] fr (news := [(27, (.bool (B37 && decide ((f.lo : Int) ≤ 2000)))), (28, (.bool (B37 && decide ((f.lo : Int) ≤ 2000))))]) (by cases B37 <;> kernel_rfl) ?_
 intro aC fr
 obtain ⟨B46, hB46⟩ : ∃ B : Bool, B = (B37 && decide ((f.lo : Int) ≤ 2000)) := ⟨_, rfl⟩
 revert aC
 refine zkp [(1, (pT b1 0)), (28, (.bool (B37 && decide ((f.lo : Int) ≤ 2000))))] ?_
 rw [← hB46]
 have iB46 : B46 = true ↔ (((((nameQ f.nm) ∧ ((f.pa : Int) ≥ 0)) ∧ ((f.pa : Int) ≤ 16)) ∧ ((f.lo : Int) ≥ f.pa)) ∧ ((f.lo : Int) ≤ 2000)) := by rw [hB46]; simp only [Bool.and_eq_true, decide_eq_true_eq, iB37]
 clear hB46
 intro aC fr
 refine zpk 1 27 [29] fr (news := [(29, (cond B46 (pT b1 4) undef))]) (by cases B46 <;> kernel_rfl) ?_
 intro aC fr
 refine From_either (B := B46) (d := (some 30)) (.slice f.A f.body.length f.c) fr (by cases B46 <;> kernel_rfl) (fun hB hh => ?_) ?_
 cases B46 <;> first | (exact absurd hB (by decide)) | skip
 have c46 : (((((nameQ f.nm) ∧ ((f.pa : Int) ≥ 0)) ∧ ((f.pa : Int) ≤ 16)) ∧ ((f.lo : Int) ≥ f.pa)) ∧ ((f.lo : Int) ≤ 2000)) := iB46.1 rfl
 exact From_ld (some 30) ⟨b1, 4, none⟩ fr (by kernel_rfl) (.slice f.A f.body.length f.c) (blk_cell (M5.get 0 rfl) rfl) hh
 intro aC fr
 refine zpk 1 29 [31] fr (news := [(31, (cond B46 (pT b1 3) undef))]) (by cases B46 <;> kernel_rfl) ?_
 intro aC fr
 refine From_either (B := B46) (d := (some 32)) (.int .i64 f.lo) fr (by cases B46 <;> kernel_rfl) (fun hB hh => ?_) ?_
 cases B46 <;> first | (exact absurd hB (by decide)) | skip
 have c46 : (((((nameQ f.nm) ∧ ((f.pa : Int) ≥ 0)) ∧ ((f.pa : Int) ≤ 16)) ∧ ((f.lo : Int) ≥ f.pa)) ∧ ((f.lo : Int) ≤ 2000)) := iB46.1 rfl
 exact From_ld (some 32) ⟨b1, 3, none⟩ fr (by kernel_rfl) (.int .i64 f.lo) (blk_cell (M5.get 0 rfl) rfl) hh
 intro aC fr
 refine From_eitherC (B := B46) (d := (some 33)) (.bool (stsV f.lo 0 0 f.body)) fr (by cases B46 <;> kernel_rfl) (fun hB hh => ?_) ?_
 cases B46 <;> first | (exact absurd hB (by decide)) | skip
 have c46 : (((((nameQ f.nm) ∧ ((f.pa : Int) ≥ 0)) ∧ ((f.pa : Int) ≤ 16)) ∧ ((f.lo : Int) ≥ f.pa)) ∧ ((f.lo : Int) ≤ 2000)) := iB46.1 rfl
 refine From_cl (some 33) 51 [(.slice f.A f.body.length f.c), (.int .i64 f.lo), (.int .i64 0), (.int .i64 0)] fr (by kernel_rfl) (rsts_all f.body f.A f.c f.lo 0 0 T w4 (by decide) (by decide) (by decide) (by decide) (hT.at_ M5) hs hI.body hI.len) ?_
 rintro _ w2 ⟨rfl, hm2⟩ a2 hF2; exact hh a2 w2 hm2 hF2
 intro aC w57 M58x fr
 have M58 := M5.cl M58x
 refine zpk 2 33 [2, 34] fr (news := [(2, (.bool (B46 && (stsV f.lo 0 0 f.body)))), (34, (.bool (B46 && (stsV f.lo 0 0 f.body))))]) (by cases B46 <;> kernel_rfl) ?_
 intro aC fr
 revert aC
 refine zfe <| zre <| zo1 (.bool (B46 && (stsV f.lo 0 0 f.body))) ?_
 have hR : (B46 && (stsV f.lo 0 0 f.body)) = true ↔ ((((((nameQ f.nm) ∧ ((f.pa : Int) ≥ 0)) ∧ ((f.pa : Int) ≤ 16)) ∧ ((f.lo : Int) ≥ f.pa)) ∧ ((f.lo : Int) ≤ 2000)) ∧ ((stsV f.lo 0 0 f.body) = true)) := by simp only [Bool.and_eq_true, iB46]
 have M63 := M58.od [] 0
 exact ⟨bool_dec hR (⟨fun h_ => (by unfold fnV; rw [Bool.and_eq_true, decide_eq_true_eq]; unfold fnQ; exact ⟨⟨h_.1.1.1.1.1, ⟨h_.1.1.1.1.2, h_.1.1.1.2⟩, h_.1.1.2, h_.1.2⟩, h_.2⟩), fun h_ => (by unfold fnV at h_; rw [Bool.and_eq_true, decide_eq_true_eq] at h_; unfold fnQ at h_; exact ⟨⟨⟨⟨⟨h_.1.1, h_.1.2.1.1⟩, h_.1.2.1.2⟩, h_.1.2.2.1⟩, h_.1.2.2.2⟩, h_.2⟩)⟩), M63⟩
theorem rfunc_c (f : TFn) (T : List Res) (w : World) (hT : RO noS w (.all T)) (hs : SubXs T f.A f.body) (hI : f.In) : Calls Try.prog 32 #[(.agg #[(.string f.nm), (.bool f.wk), (.int .i64 f.pa), (.int .i64 f.lo), (.slice f.A f.body.length f.c)])] w (Ret fun v w' => v = .bool (fnV f) ∧ Mem noS w w' []) := by
  have h := rfunc_d f T w hT hs hI
  simp only [Bool.decide_eq_true] at h
  exact h
set_option maxHeartbeats 1000000 in
theorem rdata_c (d : FDat) (w : World) (hR : RO noS w (.rds d.rA 2 (d.refs.map refCells))) (hI : LenOk d.nm.size ∧ LenOk d.words.length ∧ LenOk d.refs.length ∧ ∀ r, r ∈ d.refs → In64 r.1 ∧ LenOk r.2.size) :
    Calls Try.prog 33 #[(.agg #[(.string d.nm), (.bool d.wk), (.slice d.wA d.words.length d.wc), (.slice d.rA d.refs.length d.rc)])] w (Ret fun v w' => v = .bool (decide (datQ d)) ∧ Mem noS w w' []) := by
 have h1_ := hI.1
 have h2_ := hI.2.1
 have h3_ := hI.2.2.1
 unfold LenOk at h1_ h2_ h3_
 refine zen 72 [(.agg #[(.string d.nm), (.bool d.wk), (.slice d.wA d.words.length d.wc), (.slice d.rA d.refs.length d.rc)])] Try.func33 ?_
 have hM := Mem.init w
 refine zsr <| zbx hM 59 (.agg #[(.string d.nm), (.bool d.wk), (.slice d.wA d.words.length d.wc), (.slice d.rA d.refs.length d.rc)]) [(.string d.nm), (.bool d.wk), (.slice d.wA d.words.length d.wc), (.slice d.rA d.refs.length d.rc)] fun b1 w2 hb1 M3 => ?_
 replace M3 := M3.nf
 clear hM
 refine zpn 1 <| zfe <| zsq <| zsr <| zpn 1 <| zld ⟨b1, 0, none⟩ (.string d.nm) (blk_cell (M3.get 0 rfl) rfl) <| zcl (rname_c d.nm w2) ?_
 rintro _ w4 ⟨rfl, M5x⟩
 have M5 := M3.cl M5x
 refine zpn 2 ?_
 obtain ⟨B6, hB6⟩ : ∃ B : Bool, B = (!(decide (nameQ d.nm))) := ⟨_, rfl⟩
 refine zkp [(1, (pT b1 0)), (9, (.bool (!(decide (nameQ d.nm)))))] ?_
 rw [← hB6]
 have iB6 : B6 = true ↔ (¬ (nameQ d.nm)) := by rw [hB6]; simp only [notT, decide_eq_true_eq]
 clear hB6
 intro aC fr
 refine zpk 1 6 [10] fr (news := [(10, (cond (!B6) (pT b1 3) undef))]) (by cases B6 <;> kernel_rfl) ?_
 intro aC fr
 refine From_either (B := (!B6)) (d := (some 11)) (.slice d.rA d.refs.length d.rc) fr (by cases B6 <;> kernel_rfl) (fun hB hh => ?_) ?_
 cases B6 <;> first | (exact absurd hB (by decide)) | skip
 have c6 : ¬ (¬ (nameQ d.nm)) := (fun h => Bool.noConfusion (iB6.2 h) : ¬ (¬ (nameQ d.nm)))
 exact From_ld (some 11) ⟨b1, 3, none⟩ fr (by kernel_rfl) (.slice d.rA d.refs.length d.rc) (blk_cell (M5.get 0 rfl) rfl) hh
 intro aC fr
 refine zpk 2 9 [12, 13] fr (news := [(12, (cond (!B6) (.int .i64 ((d.refs.length : Nat) : Int)) undef)), (13, (cond (!B6) (pT b1 2) undef))]) (by cases B6 <;> kernel_rfl) ?_
 intro aC fr
 refine From_either (B := (!B6)) (d := (some 14)) (.slice d.wA d.words.length d.wc) fr (by cases B6 <;> kernel_rfl) (fun hB hh => ?_) ?_
 cases B6 <;> first | (exact absurd hB (by decide)) | skip
 have c6 : ¬ (¬ (nameQ d.nm)) := (fun h => Bool.noConfusion (iB6.2 h) : ¬ (¬ (nameQ d.nm)))
 exact From_ld (some 14) ⟨b1, 2, none⟩ fr (by kernel_rfl) (.slice d.wA d.words.length d.wc) (blk_cell (M5.get 0 rfl) rfl) hh
 intro aC fr
 refine zpk 3 13 [17] fr (news := [(17, (.bool (B6 || decide ((((d.refs.length : Nat) : Int) : Int) > ((d.words.length : Nat) : Int)))))]) (by cases B6 <;> kernel_rfl) ?_
 intro aC fr
 revert aC
 refine zfe <| zcP (B6 || decide ((((d.refs.length : Nat) : Int) : Int) > ((d.words.length : Nat) : Int))) ((¬ (nameQ d.nm)) ∨ ((((d.refs.length : Nat) : Int) : Int) > ((d.words.length : Nat) : Int))) (by simp only [Bool.or_eq_true, decide_eq_true_eq, iB6]) (fun c19 => ?_) (fun c19 => ?_)
 refine zsp <| zre <| zo1 (.bool false) ?_
 have M20 := M5.od [] 0
 exact ⟨congrArg Value.bool (decide_eq_false (fun h_ => by have h2_ := datQ_len h_; have h3_ := h_.2; exact (c19).elim (fun q_ => q_ h3_) (fun q_ => by omega))).symm, M20⟩
 have hnq : nameQ d.nm := Classical.not_not.1 (fun h_ => c19 (.inl h_))
 refine zsk <| zsq <| zsp <| zbk 0 ?_
 intro aC fr
 refine zlp (fun n_ a_ w_ => ∃ (j : Nat), n_ = d.refs.length - j ∧ Fr a_ 72 [(1, (pT b1 0)), (3, (nV j))] ∧ Mem noS w w_ [.blk b1 59 [(.string d.nm), (.bool d.wk), (.slice d.wA d.words.length d.wc), (.slice d.rA d.refs.length d.rc)]] ∧ (j ≤ d.refs.length) ∧ (refsTo d j)) (n := _) ⟨0, rfl, fr.kp [1, 3], M5, Nat.zero_le _, refsTo_zero d⟩ ?_
 clear fr aC M5; rintro n aC w23 ⟨j, rfl, fr, M24, hj, hr⟩
 revert aC
 refine zsq <| zsr <| zpn 2 <| zld ⟨b1, 3, none⟩ (.slice d.rA d.refs.length d.rc) (blk_cell (M24.get 0 rfl) rfl) <| zpn 2 <| zfe <| zcD (((j : Int) : Int) < ((d.refs.length : Nat) : Int)) (fun c27 => ?_) (fun c27 => ?_)
 refine zsk <| zsq <| zbk 1 <| zsq <| zsq ?_
 obtain ⟨rj, hrj⟩ := get_of (l := d.refs) (i := j) (by omega)
 have hrI := hI.2.2.2 rj (List.mem_of_getElem? hrj)
 obtain ⟨ad28, had29⟩ := rds_some (M24.ro hR) (cs := refCells rj) (i := j) (by rw [List.getElem?_map, hrj]; rfl)
 obtain ⟨B30, hB30⟩ : ∃ B : Bool, B = decide (rj.1 < 0) := ⟨_, rfl⟩
 cases B30
 have c30 : ¬ (rj.1 < 0) := of_decide_eq_false hB30.symm
 obtain ⟨ad31, had32⟩ := rds_some (M24.ro hR) (cs := refCells rj) (i := j) (by rw [List.getElem?_map, hrj]; rfl)
 obtain ⟨ad33, had34⟩ := rds_some (M24.ro hR) (cs := refCells rj) (i := j) (by rw [List.getElem?_map, hrj]; rfl)
 obtain ⟨B35, hB35⟩ : ∃ B : Bool, B = decide (rj.1 ≥ ((d.words.length : Nat) : Int)) := ⟨_, rfl⟩
 cases B35
 have c35 : ¬ (rj.1 ≥ ((d.words.length : Nat) : Int)) := of_decide_eq_false hB35.symm
 obtain ⟨ad36, had37⟩ := rds_some (M24.ro hR) (cs := refCells rj) (i := j) (by rw [List.getElem?_map, hrj]; rfl)
 obtain ⟨ad38, had39⟩ := rds_some (M24.ro hR) (cs := refCells rj) (i := j) (by rw [List.getElem?_map, hrj]; rfl)
 refine zkp [(1, (pT b1 0)), (3, (nV j))] ?_
 intro aC fr
 refine zdt 23 (N := 72) (env0 := [(1, (pT b1 0)), (3, (nV j))]) (specAt [.det (pT b1 3), .det (.slice d.rA d.refs.length d.rc), .det (nV j), .det (.pointer (some ((ad36 : Addr).add (((j : Int)).toNat * 2)))), .det (.pointer (some ((ad36 : Addr).add (((j : Int)).toNat * 2)))), .det (.int .i64 rj.1), .det (.bool false), .det (.bool false), .det (pT b1 3), .det (.slice d.rA d.refs.length d.rc), .det (nV j), .det (.pointer (some ((ad38 : Addr).add (((j : Int)).toNat * 2)))), .det (.pointer (some ((ad38 : Addr).add (((j : Int)).toNat * 2)))), .det (.int .i64 rj.1), .det (pT b1 2), .det (.slice d.wA d.words.length d.wc), .det (.int .i64 ((d.words.length : Nat) : Int)), .det (.bool false), .det (.bool false), .det (.bool false), .det (pT b1 3), .det (.slice d.rA d.refs.length d.rc), .det (nV j)]) fr (la (la (la (la (la (la (la (la (la (la (la (la (la (la (la (la (la (la (la (la (la (la (la lz dP) (dL ⟨b1, 3, none⟩ (.slice d.rA d.refs.length d.rc) fun w_ hK => (blk_cell ((M24.then_ hK).get 0 rfl) rfl))) dP) (dIA d.rA ad36 d.refs.length 2 (j : Int) had37)) dP) (dL ((ad36 : Addr).add (((j : Int)).toNat * 2)) (.int .i64 rj.1) fun w_ hK => (rds_get ((M24.then_ hK).ro hR) had37 (i := j) (cs := refCells rj) (by rw [List.getElem?_map, hrj]; rfl) 0 _ rfl))) (dC (decide (rj.1 < 0)) hB30)) dP) dP) (dL ⟨b1, 3, none⟩ (.slice d.rA d.refs.length d.rc) fun w_ hK => (blk_cell ((M24.then_ hK).get 0 rfl) rfl))) dP) (dIA d.rA ad38 d.refs.length 2 (j : Int) had39)) dP) (dL ((ad38 : Addr).add (((j : Int)).toNat * 2)) (.int .i64 rj.1) fun w_ hK => (rds_get ((M24.then_ hK).ro hR) had39 (i := j) (cs := refCells rj) (by rw [List.getElem?_map, hrj]; rfl) 0 _ rfl))) dP) (dL ⟨b1, 2, none⟩ (.slice d.wA d.words.length d.wc) fun w_ hK => (blk_cell ((M24.then_ hK).get 0 rfl) rfl))) dP) (dC (decide (rj.1 ≥ ((d.words.length : Nat) : Int))) hB35)) dP) dP) dP) (dL ⟨b1, 3, none⟩ (.slice d.rA d.refs.length d.rc) fun w_ hK => (blk_cell ((M24.then_ hK).get 0 rfl) rfl))) dP) ?_
 intro aC w44 vs hK hv fr
 revert aC; refine zkp [(1, (pT b1 0)), (3, (nV j)), (44, (.bool false)), (46, (.slice d.rA d.refs.length d.rc)), (47, (nV j))] ?_
 have M45 := M24.then_ hK
 clear hK hv fr aC M24; clear vs
 obtain ⟨ad46, had47⟩ := rds_some (M45.ro hR) (cs := refCells rj) (i := j) (by rw [List.getElem?_map, hrj]; rfl)
 intro aC fr
 refine From_ixA (some 48) d.rA ad46 d.refs.length 2 (j : Int) fr (by kernel_rfl) had47 (by omega) (by omega) ?_
 intro aC fr
 revert aC
 refine zpn 1 ?_
 refine zld (((ad46 : Addr).add (((j : Int)).toNat * 2)).add 1) (.string rj.2) (rds_get (M45.ro hR) had47 (i := j) (cs := refCells rj) (by rw [List.getElem?_map, hrj]; rfl) 1 _ rfl) ?_
 refine zcl (rname_c rj.2 w44) ?_
 rintro _ w52 ⟨rfl, M53x⟩
 have M53 := M45.cl M53x
 refine zpn 2 <| zfe <| zcP (!(decide (nameQ rj.2))) (¬ (nameQ rj.2)) (by simp only [notT, decide_eq_true_eq]) (fun c54 => ?_) (fun c54 => ?_)
 refine zsp <| zre <| zbr <| zbr <| zo1 (.bool false) ?_
 have M55 := M53.od [] 0
 exact ⟨congrArg Value.bool (decide_eq_false (fun h_ => by obtain ⟨h2_, h3_, _⟩ := h_.1 j rj hrj; first | omega | exact c54 h2_)).symm, M55⟩
 have hq_ : nameQ rj.2 ∧ (0 ≤ rj.1 ∧ rj.1 < (d.words.length : Int)) := ⟨Classical.not_not.1 c54, by omega⟩
 refine zsk <| zsp <| zbk 2 ?_
 intro aC fr
 refine zlp (fun n_ a_ w_ => ∃ (k : Nat), n_ = j - k ∧ Fr a_ 72 [(1, (pT b1 0)), (3, (nV j)), (4, (nV k))] ∧ Mem noS w w_ [.blk b1 59 [(.string d.nm), (.bool d.wk), (.slice d.wA d.words.length d.wc), (.slice d.rA d.refs.length d.rc)]] ∧ (k ≤ j) ∧ (rj.1 ∉ (d.refs.take k).map (·.1))) (n := _) ⟨0, rfl, fr.kp [1, 3, 4], M53, Nat.zero_le _, nin_zero _⟩ ?_
 clear fr aC M53; rintro n aC w58 ⟨k, rfl, fr, M59, hk, hkn⟩
 revert aC
 refine zsq <| zsp <| zcD (((k : Int) : Int) < (j : Int)) (fun c62 => ?_) (fun c62 => ?_)
 refine zsk <| zsq <| zbk 3 <| zsq ?_
 obtain ⟨rk, hrk⟩ := get_of (l := d.refs) (i := k) (by omega)
 obtain ⟨ad63, had64⟩ := rds_some (M59.ro hR) (cs := refCells rk) (i := k) (by rw [List.getElem?_map, hrk]; rfl)
 obtain ⟨ad65, had66⟩ := rds_some (M59.ro hR) (cs := refCells rj) (i := j) (by rw [List.getElem?_map, hrj]; rfl)
 obtain ⟨B67, hB67⟩ : ∃ B : Bool, B = (rk.1 == rj.1) := ⟨_, rfl⟩
 refine zkp [(1, (pT b1 0)), (3, (nV j)), (4, (nV k))] ?_
 intro aC fr
 refine zdr (N := 72) (env0 := [(1, (pT b1 0)), (3, (nV j)), (4, (nV k))]) (specAt [.det (pT b1 3), .det (.slice d.rA d.refs.length d.rc), .det (nV k), .det (.pointer (some ((ad63 : Addr).add (((k : Int)).toNat * 2)))), .det (.pointer (some ((ad63 : Addr).add (((k : Int)).toNat * 2)))), .det (.int .i64 rk.1), .det (pT b1 3), .det (.slice d.rA d.refs.length d.rc), .det (nV j), .det (.pointer (some ((ad65 : Addr).add (((j : Int)).toNat * 2)))), .det (.pointer (some ((ad65 : Addr).add (((j : Int)).toNat * 2)))), .det (.int .i64 rj.1), .det (.bool B67)]) fr (la (la (la (la (la (la (la (la (la (la (la (la (la lz dP) (dL ⟨b1, 3, none⟩ (.slice d.rA d.refs.length d.rc) fun w_ hK => (blk_cell ((M59.then_ hK).get 0 rfl) rfl))) dP) (dIA d.rA ad63 d.refs.length 2 (k : Int) had64)) dP) (dL ((ad63 : Addr).add (((k : Int)).toNat * 2)) (.int .i64 rk.1) fun w_ hK => (rds_get ((M59.then_ hK).ro hR) had64 (i := k) (cs := refCells rk) (by rw [List.getElem?_map, hrk]; rfl) 0 _ rfl))) dP) (dL ⟨b1, 3, none⟩ (.slice d.rA d.refs.length d.rc) fun w_ hK => (blk_cell ((M59.then_ hK).get 0 rfl) rfl))) dP) (dIA d.rA ad65 d.refs.length 2 (j : Int) had66)) dP) (dL ((ad65 : Addr).add (((j : Int)).toNat * 2)) (.int .i64 rj.1) fun w_ hK => (rds_get ((M59.then_ hK).ro hR) had66 (i := j) (cs := refCells rj) (by rw [List.getElem?_map, hrj]; rfl) 0 _ rfl))) (dC (rk.1 == rj.1) hB67)) ?_
 intro aC w72 vs hK hv fr
 revert aC; refine zkp [(1, (pT b1 0)), (3, (nV j)), (4, (nV k)), (71, (.bool B67))] ?_
 have M73 := M59.then_ hK
 clear hK hv fr aC M59; clear vs
 have iB67 : B67 = true ↔ ((rk.1 : Int) = rj.1) := by rw [hB67]; simp only [beq_iff_eq]
 clear hB67
 refine zcP B67 ((rk.1 : Int) = rj.1) iB67 (fun c74 => ?_) (fun c74 => ?_)
 refine zsp <| zre <| zbr <| zbr <| zbr <| zbr <| zo1 (.bool false) ?_
 have M75 := M73.od [] 0
 exact ⟨congrArg Value.bool (decide_eq_false (fun h_ => (h_.1 j rj hrj).2.2 (nin_no (key := fun r : Int × ByteArray => r.1) (k := k) (by omega) hrk c74))).symm, M75⟩
 refine zsk <| zrg <| zpn 1 <| zar ((k : Int) + 1) <| zpn 1 <| zfe ?_
 intro aC fr
 exact ⟨j - (k + 1), by omega, k + 1, rfl, fr.kp [1, 3, 4], M73, by omega, nin_succ hkn hrk c74⟩
 refine zex 2 <| zbh <| zrg ?_
 obtain rfl : j = k := by omega
 refine zpn 1 <| zar ((j : Int) + 1) <| zpn 1 <| zfe ?_
 intro aC fr
 exact ⟨d.refs.length - (j + 1), by omega, j + 1, rfl, fr.kp [1, 3], M59, by omega, refsTo_succ hr hrj ⟨hq_.1, hq_.2, hkn⟩⟩
 have c35 : rj.1 ≥ ((d.words.length : Nat) : Int) := of_decide_eq_true hB35.symm
 obtain ⟨ad80, had81⟩ := rds_some (M24.ro hR) (cs := refCells rj) (i := j) (by rw [List.getElem?_map, hrj]; rfl)
 obtain ⟨ad82, had83⟩ := rds_some (M24.ro hR) (cs := refCells rj) (i := j) (by rw [List.getElem?_map, hrj]; rfl)
 refine zkp [(1, (pT b1 0)), (3, (nV j))] ?_
 intro aC fr
 refine zdt 23 (N := 72) (env0 := [(1, (pT b1 0)), (3, (nV j))]) (specAt [.det (pT b1 3), .det (.slice d.rA d.refs.length d.rc), .det (nV j), .det (.pointer (some ((ad80 : Addr).add (((j : Int)).toNat * 2)))), .det (.pointer (some ((ad80 : Addr).add (((j : Int)).toNat * 2)))), .det (.int .i64 rj.1), .det (.bool false), .det (.bool false), .det (pT b1 3), .det (.slice d.rA d.refs.length d.rc), .det (nV j), .det (.pointer (some ((ad82 : Addr).add (((j : Int)).toNat * 2)))), .det (.pointer (some ((ad82 : Addr).add (((j : Int)).toNat * 2)))), .det (.int .i64 rj.1), .det (pT b1 2), .det (.slice d.wA d.words.length d.wc), .det (.int .i64 ((d.words.length : Nat) : Int)), .det (.bool true), .det (.bool true), .det (.bool true), dU, dU, dU]) fr (la (la (la (la (la (la (la (la (la (la (la (la (la (la (la (la (la (la (la (la (la (la (la lz dP) (dL ⟨b1, 3, none⟩ (.slice d.rA d.refs.length d.rc) fun w_ hK => (blk_cell ((M24.then_ hK).get 0 rfl) rfl))) dP) (dIA d.rA ad80 d.refs.length 2 (j : Int) had81)) dP) (dL ((ad80 : Addr).add (((j : Int)).toNat * 2)) (.int .i64 rj.1) fun w_ hK => (rds_get ((M24.then_ hK).ro hR) had81 (i := j) (cs := refCells rj) (by rw [List.getElem?_map, hrj]; rfl) 0 _ rfl))) (dC (decide (rj.1 < 0)) hB30)) dP) dP) (dL ⟨b1, 3, none⟩ (.slice d.rA d.refs.length d.rc) fun w_ hK => (blk_cell ((M24.then_ hK).get 0 rfl) rfl))) dP) (dIA d.rA ad82 d.refs.length 2 (j : Int) had83)) dP) (dL ((ad82 : Addr).add (((j : Int)).toNat * 2)) (.int .i64 rj.1) fun w_ hK => (rds_get ((M24.then_ hK).ro hR) had83 (i := j) (cs := refCells rj) (by rw [List.getElem?_map, hrj]; rfl) 0 _ rfl))) dP) (dL ⟨b1, 2, none⟩ (.slice d.wA d.words.length d.wc) fun w_ hK => (blk_cell ((M24.then_ hK).get 0 rfl) rfl))) dP) (dC (decide (rj.1 ≥ ((d.words.length : Nat) : Int))) hB35)) dP) dP) dK) dK) dK) ?_
 intro aC w88 vs hK hv fr
 revert aC; refine zkp [(1, (pT b1 0)), (3, (nV j)), (44, (.bool true))] ?_
 have M89 := M24.then_ hK
 clear hK hv fr aC M24; clear vs
 refine zpn 6 <| zfe <| zcT <| zsp <| zre <| zbr <| zbr <| zo1 (.bool false) ?_
 have M90 := M89.od [] 0
 exact ⟨congrArg Value.bool (decide_eq_false (fun h_ => by obtain ⟨h2_, h3_, _⟩ := h_.1 j rj hrj; first | omega | exact c54 h2_)).symm, M90⟩
 have c30 : rj.1 < 0 := of_decide_eq_true hB30.symm
 obtain ⟨ad91, had92⟩ := rds_some (M24.ro hR) (cs := refCells rj) (i := j) (by rw [List.getElem?_map, hrj]; rfl)
 refine zkp [(1, (pT b1 0)), (3, (nV j))] ?_
 intro aC fr
 refine zdt 23 (N := 72) (env0 := [(1, (pT b1 0)), (3, (nV j))]) (specAt [.det (pT b1 3), .det (.slice d.rA d.refs.length d.rc), .det (nV j), .det (.pointer (some ((ad91 : Addr).add (((j : Int)).toNat * 2)))), .det (.pointer (some ((ad91 : Addr).add (((j : Int)).toNat * 2)))), .det (.int .i64 rj.1), .det (.bool true), .det (.bool true), dU, dU, dU, dU, dU, dU, dU, dU, dU, dU, .det (.bool true), .det (.bool true), dU, dU, dU]) fr (la (la (la (la (la (la (la (la (la (la (la (la (la (la (la (la (la (la (la (la (la (la (la lz dP) (dL ⟨b1, 3, none⟩ (.slice d.rA d.refs.length d.rc) fun w_ hK => (blk_cell ((M24.then_ hK).get 0 rfl) rfl))) dP) (dIA d.rA ad91 d.refs.length 2 (j : Int) had92)) dP) (dL ((ad91 : Addr).add (((j : Int)).toNat * 2)) (.int .i64 rj.1) fun w_ hK => (rds_get ((M24.then_ hK).ro hR) had92 (i := j) (cs := refCells rj) (by rw [List.getElem?_map, hrj]; rfl) 0 _ rfl))) (dC (decide (rj.1 < 0)) hB30)) dP) dK) dK) dK) dK) dK) dK) dK) dK) dK) dK) dP) dP) dK) dK) dK) ?_
 intro aC w97 vs hK hv fr
 revert aC; refine zkp [(1, (pT b1 0)), (3, (nV j)), (44, (.bool true))] ?_
 have M98 := M24.then_ hK
 clear hK hv fr aC M24; clear vs
 refine zpn 6 <| zfe <| zcT <| zsp <| zre <| zbr <| zbr <| zo1 (.bool false) ?_
 have M99 := M98.od [] 0
 exact ⟨congrArg Value.bool (decide_eq_false (fun h_ => by obtain ⟨h2_, h3_, _⟩ := h_.1 j rj hrj; first | omega | exact c54 h2_)).symm, M99⟩
 refine zex 0 <| zbh <| zsp <| zre <| zo1 (.bool true) ?_
 have M100 := M24.od [] 0
 obtain rfl : j = d.refs.length := by omega
 exact ⟨congrArg Value.bool (decide_eq_true (datQ_iff.2 ⟨hr, hnq⟩)).symm, M100⟩
end Go.Proofs.Ytdcgcjibgihbbaa
namespace Go.Proofs.Ytdcgcjibgihbbaa
open Go.Mor
theorem teck_c (l : List MEx) (ih : ∀ k, k ∈ l → ECk Try.prog k.kids) (A : Option Addr) (c : Nat) (most : Int) (T : List Res) (w : World) (hm0 : 0 ≤ most) (hm1 : most ≤ 1152921504606846976) (hT : RO noS w (.all T)) (hs : SubEs T A l) (hI : exsI l) (hll : LenOk l.length) :
    Calls Try.prog 47 #[(.slice A l.length c), (.int .i64 most)] w (Ret fun v w' => ∃ r, v = .int .i64 r ∧ (Cnt most 0 (exsN l) r ∧ r ≤ most + 1) ∧ Mem noS w w' []) := by
 unfold LenOk at hll
 refine zen 35 [(.slice A l.length c), (.int .i64 most)] Try.func47 ?_
 have hM := Mem.init w
 refine zsp <| zsp <| zsq <| zsp <| zbk 0 ?_
 intro aC fr
 refine zlp (fun n_ a_ w_ => ∃ (j : Nat) (nj : Int), n_ = l.length - j ∧ Fr a_ 35 [(0, (.slice A l.length c)), (1, (.int .i64 most)), (5, (.int .i64 nj)), (6, (nV j))] ∧ Mem noS w w_ [] ∧ (j ≤ l.length) ∧ (Cnt most 0 (exsN (l.take j)) nj) ∧ (nj ≤ most + 1)) (n := _) ⟨0, 0, rfl, fr.kp [0, 1, 5, 6], hM, Nat.zero_le _, by rw [List.take_zero]; exact Cnt.zero, by omega⟩ ?_
 clear fr aC hM; rintro n aC w3 ⟨j, nj, rfl, fr, M4, hj, hc, hb⟩
 revert aC
 refine zsq <| zsr <| zpn 5 ?_
 obtain ⟨B7, hB7⟩ : ∃ B : Bool, B = decide (((j : Int) : Int) < ((l.length : Nat) : Int)) := ⟨_, rfl⟩
 refine zkp [(0, (.slice A l.length c)), (1, (.int .i64 most)), (5, (.int .i64 nj)), (6, (nV j)), (11, (.bool (decide (((j : Int) : Int) < ((l.length : Nat) : Int)))))] ?_
 rw [← hB7]
 have iB7 : B7 = true ↔ (((j : Int) : Int) < ((l.length : Nat) : Int)) := by rw [hB7]; simp only [decide_eq_true_eq]
 clear hB7
 intro aC fr
 refine zpk 4 9 [15] fr (news := [(15, (.bool (B7 && decide ((nj : Int) ≤ most))))]) (by cases B7 <;> kernel_rfl) ?_
 intro aC fr
 revert aC
 refine zfe <| zcP (B7 && decide ((nj : Int) ≤ most)) ((((j : Int) : Int) < ((l.length : Nat) : Int)) ∧ ((nj : Int) ≤ most)) (by simp only [Bool.and_eq_true, decide_eq_true_eq, iB7]) (fun c12 => ?_) (fun c12 => ?_)
 refine zsk <| zsq <| zbk 1 <| zsr ?_
 have hcb := hc.le
 obtain ⟨k, hk⟩ := get_of (l := l) (i := j) (by omega)
 have hkm := List.mem_of_getElem? hk
 have hkI := exsI_mem hI hkm
 refine zpn 1 <| zar (nj + 1) <| zpn 1 <| zfe <| zsp <| zcD (((nj + 1) : Int) ≤ most) (fun c13 => ?_) (fun c13 => ?_)
 refine zrg <| zpn 3 ?_
 obtain ⟨ad14, rfl⟩ := rds_some (M4.ro (hT.sub hs.1)) (cs := k.cells) (i := j) (by rw [List.getElem?_map, hk]; rfl)
 refine zix ad14 l.length 4 (j : Int) <| zpn 1 ?_
 refine zld (((ad14 : Addr).add (((j : Int)).toNat * 4)).add 3) (.slice k.A k.kids.length k.c) (rds_get (M4.ro (hT.sub hs.1)) rfl (i := j) (cs := k.cells) (by rw [List.getElem?_map, hk]; rfl) 3 _ rfl) ?_
 refine zpn 2 <| zar (most - (nj + 1)) <| zcl (vs := #[(.slice k.A k.kids.length k.c), (.int .i64 (most - (nj + 1)))]) (ih k hkm k.A k.c _ T w3 (by omega) (by omega) (hT.at_ M4) (hs.2 k hkm).kids hkI.kids hkI.own.kids) ?_
 rintro _ w16 ⟨r15, rfl, ⟨hrk, hrb⟩, M17x⟩
 have M17 := M4.cl M17x
 have hrl := hrk.le
 refine zkp [(0, (.slice (some ad14) l.length c)), (1, (.int .i64 most)), (6, (nV j)), (23, (.int .i64 (nj + 1))), (32, (.int .i64 r15))] <| zar ((nj + 1) + r15) <| zpn 1 <| zfe <| zrg <| zpn 1 <| zar ((j : Int) + 1) <| zpn 1 <| zfe ?_
 intro aC fr
 exact ⟨l.length - (j + 1), by omega, j + 1, ((nj + 1) + r15), rfl, fr.kp [0, 1, 5, 6], M17, by omega, ((hc.trans Cnt.one).trans hrk.sh).cast (by rw [exsN_take hk, exN_eq]; omega), by omega⟩
 refine zsk <| zrg <| zpn 1 <| zar ((j : Int) + 1) <| zpn 1 <| zfe ?_
 intro aC fr
 exact ⟨l.length - (j + 1), by omega, j + 1, (nj + 1), rfl, fr.kp [0, 1, 5, 6], M4, by omega, ((hc.trans Cnt.one).stop (k' := (exsN k.kids : Int)) (by omega) (by omega)).cast (by rw [exsN_take hk, exN_eq]; omega), by omega⟩
 refine zex 0 <| zbh <| zsp <| zre <| zo1 (.int .i64 nj) ?_
 exact ⟨nj, rfl, ⟨cnt_exs hc (by omega), hb⟩, M4⟩
theorem teck_step (l : List MEx) (ih : ∀ k, k ∈ l → ECk Try.prog k.kids) : ECk Try.prog l := fun A c most T w h0 h1 hT hs hI hll => teck_c l ih A c most T w h0 h1 hT hs hI hll
theorem teck_x (e : MEx) : ECk Try.prog e.kids := MEx.ind (p := fun e => ECk Try.prog e.kids) (fun e h => teck_step e.kids h) e
theorem teck_all (l : List MEx) : ECk Try.prog l := teck_step l (fun x _ => teck_x x)
set_option maxHeartbeats 1000000 in
theorem tsck_c (l : List MSt) (ih : ∀ x, x ∈ l → SCk Try.prog x.body ∧ SCk Try.prog x.els) (A : Option Addr) (c : Nat) (most : Int) (T : List Res) (w : World) (hm0 : 0 ≤ most) (hm1 : most ≤ 1152921504606846976) (hT : RO noS w (.all T)) (hs : SubXs T A l) (hI : stsI l) (hll : LenOk l.length) :
    Calls Try.prog 24 #[(.slice A l.length c), (.int .i64 most)] w (Ret fun v w' => ∃ r, v = .int .i64 r ∧ (Cnt most 0 (stsN l) r ∧ r ≤ most + 2) ∧ Mem noS w w' []) := by
 unfold LenOk at hll
 refine zen 59 [(.slice A l.length c), (.int .i64 most)] Try.func24 ?_
 have hM := Mem.init w
 refine zsp <| zsp <| zsq <| zsp <| zbk 0 ?_
 intro aC fr
 refine zlp (fun n_ a_ w_ => ∃ (j : Nat) (nj : Int), n_ = l.length - j ∧ Fr a_ 59 [(0, (.slice A l.length c)), (1, (.int .i64 most)), (5, (.int .i64 nj)), (6, (nV j))] ∧ Mem noS w w_ [] ∧ (j ≤ l.length) ∧ (Cnt most 0 (stsN (l.take j)) nj) ∧ (nj ≤ most + 2)) (n := _) ⟨0, 0, rfl, fr.kp [0, 1, 5, 6], hM, Nat.zero_le _, by rw [List.take_zero]; exact Cnt.zero, by omega⟩ ?_
 clear fr aC hM; rintro n aC w3 ⟨j, nj, rfl, fr, M4, hj, hc, hb⟩
 revert aC
 refine zsq <| zsr <| zpn 5 ?_
 obtain ⟨B7, hB7⟩ : ∃ B : Bool, B = decide (((j : Int) : Int) < ((l.length : Nat) : Int)) := ⟨_, rfl⟩
 refine zkp [(0, (.slice A l.length c)), (1, (.int .i64 most)), (5, (.int .i64 nj)), (6, (nV j)), (11, (.bool (decide (((j : Int) : Int) < ((l.length : Nat) : Int)))))] ?_
 rw [← hB7]
 have iB7 : B7 = true ↔ (((j : Int) : Int) < ((l.length : Nat) : Int)) := by rw [hB7]; simp only [decide_eq_true_eq]
 clear hB7
 intro aC fr
 refine zpk 4 9 [15] fr (news := [(15, (.bool (B7 && decide ((nj : Int) ≤ most))))]) (by cases B7 <;> kernel_rfl) ?_
 intro aC fr
 revert aC
 refine zfe <| zcP (B7 && decide ((nj : Int) ≤ most)) ((((j : Int) : Int) < ((l.length : Nat) : Int)) ∧ ((nj : Int) ≤ most)) (by simp only [Bool.and_eq_true, decide_eq_true_eq, iB7]) (fun c12 => ?_) (fun c12 => ?_)
 refine zsk <| zsq <| zbk 1 <| zsr ?_
 have hcb := hc.le
 obtain ⟨x, hx⟩ := get_of (l := l) (i := j) (by omega)
 have hxm := List.mem_of_getElem? hx
 have hxI := stsI_mem hI hxm
 have hsx := hs.2 x hxm
 refine zpn 1 <| zar (nj + 1) <| zpn 2 ?_
 obtain ⟨ad13, rfl⟩ := rds_some (M4.ro (hT.sub hs.1)) (cs := x.cells) (i := j) (by rw [List.getElem?_map, hx]; rfl)
 refine zix ad13 l.length 5 (j : Int) <| zpn 1 ?_
 refine zld (((ad13 : Addr).add (((j : Int)).toNat * 5)).add 2) (.slice x.eA x.exprs.length x.ec) (rds_get (M4.ro (hT.sub hs.1)) rfl (i := j) (cs := x.cells) (by rw [List.getElem?_map, hx]; rfl) 2 _ rfl) ?_
 refine zpn 2 <| zar (most - nj) <| zcl (vs := #[(.slice x.eA x.exprs.length x.ec), (.int .i64 (most - nj))]) (teck_all x.exprs x.eA x.ec _ T w3 (by omega) (by omega) (hT.at_ M4) hsx.exprs hxI.exprs hxI.own.exprs) ?_
 rintro _ w15 ⟨r14, rfl, ⟨hre, hqe⟩, M16x⟩
 have M16 := M4.cl M16x
 have hze := hre.le
 refine zar ((nj + 1) + r14) <| zpn 1 <| zfe <| zsq <| zsp <| zcD ((((nj + 1) + r14) : Int) ≤ most) (fun c17 => ?_) (fun c17 => ?_)
 refine zrg <| zpn 3 <| zix ad13 l.length 5 (j : Int) <| zkp [(0, (.slice (some ad13) l.length c)), (1, (.int .i64 most)), (5, (.int .i64 ((nj + 1) + r14))), (6, (nV j)), (33, (.int .i64 ((nj + 1) + r14))), (36, (.pointer (some ((ad13 : Addr).add (((j : Int)).toNat * 5)))))] <| zpn 1 ?_
 refine zld (((ad13 : Addr).add (((j : Int)).toNat * 5)).add 3) (.slice x.bA x.body.length x.bc) (rds_get (M16.ro (hT.sub hs.1)) rfl (i := j) (cs := x.cells) (by rw [List.getElem?_map, hx]; rfl) 3 _ rfl) ?_
 refine zpn 2 <| zar (most - ((nj + 1) + r14)) <| zcl (vs := #[(.slice x.bA x.body.length x.bc), (.int .i64 (most - ((nj + 1) + r14)))]) ((ih x hxm).1 x.bA x.bc _ T w15 (by omega) (by omega) (hT.at_ M16) hsx.body hxI.body hxI.own.body) ?_
 rintro _ w19 ⟨r18, rfl, ⟨hrb, hqb⟩, M20x⟩
 have M20 := M16.cl M20x
 have hzb := hrb.le
 refine zar (((nj + 1) + r14) + r18) <| zpn 1 <| zfe <| zsp <| zcD (((((nj + 1) + r14) + r18) : Int) ≤ most) (fun c21 => ?_) (fun c21 => ?_)
 refine zrg <| zpn 3 <| zix ad13 l.length 5 (j : Int) <| zpn 1 ?_
 refine zld (((ad13 : Addr).add (((j : Int)).toNat * 5)).add 4) (.slice x.lA x.els.length x.lc) (rds_get (M20.ro (hT.sub hs.1)) rfl (i := j) (cs := x.cells) (by rw [List.getElem?_map, hx]; rfl) 4 _ rfl) ?_
 refine zkp [(0, (.slice (some ad13) l.length c)), (1, (.int .i64 most)), (5, (.int .i64 (((nj + 1) + r14) + r18))), (6, (nV j)), (47, (.int .i64 (((nj + 1) + r14) + r18))), (52, (.slice x.lA x.els.length x.lc))] <| zpn 2 <| zar (most - (((nj + 1) + r14) + r18)) <| zcl (vs := #[(.slice x.lA x.els.length x.lc), (.int .i64 (most - (((nj + 1) + r14) + r18)))]) ((ih x hxm).2 x.lA x.lc _ T w19 (by omega) (by omega) (hT.at_ M20) hsx.els hxI.els hxI.own.els) ?_
 rintro _ w23 ⟨r22, rfl, ⟨hrl, hql⟩, M24x⟩
 have M24 := M20.cl M24x
 have hzl := hrl.le
 refine zar ((((nj + 1) + r14) + r18) + r22) <| zpn 1 <| zfe <| zrg <| zpn 1 <| zar ((j : Int) + 1) <| zpn 1 <| zfe ?_
 intro aC fr
 exact ⟨l.length - (j + 1), by omega, j + 1, ((((nj + 1) + r14) + r18) + r22), rfl, fr.kp [0, 1, 5, 6], M24, by omega, ((((hc.trans Cnt.one).trans hre.sh1).trans hrb.sh).trans hrl.sh).cast (by rw [stsN_take hx, stN_eq]; omega), by omega⟩
 refine zsk <| zrg <| zpn 1 <| zar ((j : Int) + 1) <| zpn 1 <| zfe ?_
 intro aC fr
 exact ⟨l.length - (j + 1), by omega, j + 1, (((nj + 1) + r14) + r18), rfl, fr.kp [0, 1, 5, 6], M20, by omega, ((((hc.trans Cnt.one).trans hre.sh1).trans hrb.sh).stop (k' := (stsN x.els : Int)) (by omega) (by omega)).cast (by rw [stsN_take hx, stN_eq]; omega), by omega⟩
 refine zsk <| zsp <| zcD ((((nj + 1) + r14) : Int) ≤ most) (fun c29 => ?_) (fun c29 => ?_)
 refine zrg <| zpn 3 <| zix ad13 l.length 5 (j : Int) <| zkp [(0, (.slice (some ad13) l.length c)), (1, (.int .i64 most)), (5, (.int .i64 ((nj + 1) + r14))), (6, (nV j)), (47, (.int .i64 ((nj + 1) + r14))), (50, (.pointer (some ((ad13 : Addr).add (((j : Int)).toNat * 5)))))] <| zpn 1 ?_
 refine zld (((ad13 : Addr).add (((j : Int)).toNat * 5)).add 4) (.slice x.lA x.els.length x.lc) (rds_get (M16.ro (hT.sub hs.1)) rfl (i := j) (cs := x.cells) (by rw [List.getElem?_map, hx]; rfl) 4 _ rfl) ?_
 refine zpn 2 <| zar (most - ((nj + 1) + r14)) <| zcl (vs := #[(.slice x.lA x.els.length x.lc), (.int .i64 (most - ((nj + 1) + r14)))]) ((ih x hxm).2 x.lA x.lc _ T w15 (by omega) (by omega) (hT.at_ M16) hsx.els hxI.els hxI.own.els) ?_
 rintro _ w31 ⟨r30, rfl, ⟨hrl, hql⟩, M32x⟩
 have M32 := M16.cl M32x
 have hzl := hrl.le
 refine zar (((nj + 1) + r14) + r30) <| zpn 1 <| zfe <| zrg <| zpn 1 <| zar ((j : Int) + 1) <| zpn 1 <| zfe ?_
 intro aC fr
 exact ⟨l.length - (j + 1), by omega, j + 1, (((nj + 1) + r14) + r30), rfl, fr.kp [0, 1, 5, 6], M32, by omega, ((((hc.trans Cnt.one).trans hre.sh1).stop (k' := (stsN x.body : Int)) (by omega) (by omega)).trans hrl.sh).cast (by rw [stsN_take hx, stN_eq]; omega), by omega⟩
 refine zsk <| zrg <| zpn 1 <| zar ((j : Int) + 1) <| zkp [(0, (.slice (some ad13) l.length c)), (1, (.int .i64 most)), (5, (.int .i64 ((nj + 1) + r14))), (17, (.int .i64 ((j : Int) + 1)))] <| zpn 1 <| zfe ?_
 intro aC fr
 exact ⟨l.length - (j + 1), by omega, j + 1, ((nj + 1) + r14), rfl, fr.kp [0, 1, 5, 6], M16, by omega, ((((hc.trans Cnt.one).trans hre.sh1).stop (k' := (stsN x.body : Int)) (by omega) (by omega)).stop (k' := (stsN x.els : Int)) (by omega) (by omega)).cast (by rw [stsN_take hx, stN_eq]; omega), by omega⟩
 refine zex 0 <| zbh <| zsp <| zre <| zo1 (.int .i64 nj) ?_
 exact ⟨nj, rfl, ⟨cnt_sts hc (by omega), hb⟩, M4⟩
theorem tsck_step (l : List MSt) (ih : ∀ x, x ∈ l → SCk Try.prog x.body ∧ SCk Try.prog x.els) : SCk Try.prog l := fun A c most T w h0 h1 hT hs hI hll => tsck_c l ih A c most T w h0 h1 hT hs hI hll
theorem tsck_x (x : MSt) : SCk Try.prog x.body ∧ SCk Try.prog x.els := MSt.ind (p := fun x => SCk Try.prog x.body ∧ SCk Try.prog x.els) (fun e hb hl => ⟨tsck_step e.body hb, tsck_step e.els hl⟩) x
theorem tsck_all (l : List MSt) : SCk Try.prog l := tsck_step l (fun x _ => tsck_x x)
end Go.Proofs.Ytdcgcjibgihbbaa
namespace Go.Proofs.Ytdcgcjibgihbbaa
open Go.Mor
set_option maxHeartbeats 1000000 in
theorem tgreat_c (m : TMod) (w : World) (hR : RO noS w (.all m.parts)) (hI : m.In0) :
    Calls Try.prog 9 #[(.agg #[(.string m.pkg), (.slice m.fA m.fns.length m.fc), (.slice m.dA m.dats.length m.dc)])] w (Ret fun v w' => ∃ B, v = .bool B ∧ (B = false → SmB m) ∧ Mem noS w w' []) := by
 have hnf := hI.nf
 have hnd := hI.nd
 unfold LenOk at hnf hnd
 refine zen 77 [(.agg #[(.string m.pkg), (.slice m.fA m.fns.length m.fc), (.slice m.dA m.dats.length m.dc)])] Try.func9 ?_
 have hM := Mem.init w
 refine zsr <| zbx hM 25 (.agg #[(.string m.pkg), (.slice m.fA m.fns.length m.fc), (.slice m.dA m.dats.length m.dc)]) [(.string m.pkg), (.slice m.fA m.fns.length m.fc), (.slice m.dA m.dats.length m.dc)] fun b1 w2 hb1 M3 => ?_
 replace M3 := M3.nf
 clear hM
 refine zpn 1 <| zfe <| zsr <| zpn 1 <| zld ⟨b1, 1, none⟩ (.slice m.fA m.fns.length m.fc) (blk_cell (M3.get 0 rfl) rfl) <| zpn 2 <| zld ⟨b1, 2, none⟩ (.slice m.dA m.dats.length m.dc) (blk_cell (M3.get 0 rfl) rfl) <| zpn 1 <| zar (((m.fns.length : Nat) : Int) + ((m.dats.length : Nat) : Int)) <| zpn 1 ?_
 refine zfe <| zsq <| zsp <| zbk 0 ?_
 intro aC fr
 refine zlp (fun n_ a_ w_ => ∃ (j : Nat) (nj : Int), n_ = m.fns.length - j ∧ Fr a_ 77 [(1, (pT b1 0)), (3, (.int .i64 nj)), (4, (nV j))] ∧ Mem noS w w_ [.blk b1 25 [(.string m.pkg), (.slice m.fA m.fns.length m.fc), (.slice m.dA m.dats.length m.dc)]] ∧ (j ≤ m.fns.length) ∧ (nj ≤ 25000 → nj = ((m.fns.length + m.dats.length + fnsN (m.fns.take j) : Nat) : Int)) ∧ (0 ≤ nj) ∧ (nj ≤ 562949953500000)) (n := _) ⟨0, (((m.fns.length : Nat) : Int) + ((m.dats.length : Nat) : Int)), rfl, fr.kp [1, 3, 4], M3, Nat.zero_le _, fun _ => by rw [List.take_zero]; show _ = ((m.fns.length + m.dats.length + 0 : Nat) : Int); omega, by omega, by omega⟩ ?_
 clear fr aC M3; rintro n aC w6 ⟨j, nj, rfl, fr, M7, hj, hc, hn0, hn1⟩
 revert aC
 refine zsq <| zsr <| zpn 2 <| zld ⟨b1, 1, none⟩ (.slice m.fA m.fns.length m.fc) (blk_cell (M7.get 0 rfl) rfl) <| zpn 3 ?_
 obtain ⟨B10, hB10⟩ : ∃ B : Bool, B = decide (((j : Int) : Int) < ((m.fns.length : Nat) : Int)) := ⟨_, rfl⟩
 refine zkp [(1, (pT b1 0)), (3, (.int .i64 nj)), (4, (nV j)), (18, (.bool (decide (((j : Int) : Int) < ((m.fns.length : Nat) : Int)))))] ?_
 rw [← hB10]
 have iB10 : B10 = true ↔ (((j : Int) : Int) < ((m.fns.length : Nat) : Int)) := by rw [hB10]; simp only [decide_eq_true_eq]
 clear hB10
 intro aC fr
 refine zpk 3 9 [21] fr (news := [(21, (.bool (B10 && decide ((nj : Int) ≤ 25000))))]) (by cases B10 <;> kernel_rfl) ?_
 intro aC fr
 revert aC
 refine zfe <| zcP (B10 && decide ((nj : Int) ≤ 25000)) ((((j : Int) : Int) < ((m.fns.length : Nat) : Int)) ∧ ((nj : Int) ≤ 25000)) (by simp only [Bool.and_eq_true, decide_eq_true_eq, iB10]) (fun c15 => ?_) (fun c15 => ?_)
 refine zsk <| zsq <| zbk 1 <| zrg ?_
 obtain ⟨f, hf⟩ := get_of (l := m.fns) (i := j) (by omega)
 have hfm := List.mem_of_getElem? hf
 have hfI := hI.fns f hfm
 refine zpn 2 <| zld ⟨b1, 1, none⟩ (.slice m.fA m.fns.length m.fc) (blk_cell (M7.get 0 rfl) rfl) <| zpn 1 ?_
 obtain ⟨ad16, had17⟩ := rds_some (M7.ro hR.m_fns) (cs := f.cells) (i := j) (by rw [List.getElem?_map, hf]; rfl)
 intro aC fr
 refine From_ixA (some 28) m.fA ad16 m.fns.length 5 (j : Int) fr (by kernel_rfl) had17 (by omega) (by omega) ?_
 intro aC fr
 revert aC
 refine zpn 1 ?_
 refine zld (((ad16 : Addr).add (((j : Int)).toNat * 5)).add 4) (.slice f.A f.body.length f.c) (rds_get (M7.ro hR.m_fns) had17 (i := j) (cs := f.cells) (by rw [List.getElem?_map, hf]; rfl) 4 _ rfl) ?_
 refine zpn 1 <| zar (25000 - nj) <| zcl (vs := #[(.slice f.A f.body.length f.c), (.int .i64 (25000 - nj))]) (tsck_all f.body f.A f.c _ _ w6 (by omega) (by omega) (hR.m_tree.at_ M7) (sub_fn hfm) hfI.body hfI.len) ?_
 rintro _ w23 ⟨r22, rfl, ⟨hrk, hrb⟩, M24x⟩
 have M24 := M7.cl M24x
 unfold Cnt at hrk
 refine zar (nj + r22) <| zpn 1 <| zfe <| zrg <| zpn 1 <| zar ((j : Int) + 1) <| zkp [(1, (pT b1 0)), (3, (.int .i64 (nj + r22))), (23, (.int .i64 ((j : Int) + 1)))] <| zpn 1 <| zfe ?_
 intro aC fr
 exact ⟨m.fns.length - (j + 1), by omega, j + 1, (nj + r22), rfl, fr.kp [1, 3, 4], (M24.tk 1), by omega, fun h_ => by have e1 := hc (by omega); rw [fnsN_take hf]; omega, by omega, by omega⟩
 refine zex 0 <| zbh <| zsq <| zsp <| zbk 2 ?_
 intro aC fr
 refine zlp (fun n_ a_ w_ => ∃ (k : Nat) (nk : Int), n_ = m.dats.length - k ∧ Fr a_ 77 [(1, (pT b1 0)), (3, (.int .i64 nk)), (5, (nV k))] ∧ Mem noS w w_ [.blk b1 25 [(.string m.pkg), (.slice m.fA m.fns.length m.fc), (.slice m.dA m.dats.length m.dc)]] ∧ (k ≤ m.dats.length) ∧ (nk ≤ 25000 → nk = ((m.fns.length + m.dats.length + fnsN m.fns + datS (m.dats.take k) : Nat) : Int)) ∧ (0 ≤ nk) ∧ (nk ≤ 562949953600000)) (n := _) ⟨0, nj, rfl, fr.kp [1, 3, 5], M7, Nat.zero_le _, fun h_ => by have e1 := hc h_; rw [List.take_of_length_le (by omega)] at e1; rw [List.take_zero]; show _ = ((m.fns.length + m.dats.length + fnsN m.fns + 0 : Nat) : Int); omega, by omega, by omega⟩ ?_
 clear fr aC M7; rintro n aC w29 ⟨k, nk, rfl, fr, M30, hk, hd, hk0, hk1⟩
 revert aC
 refine zsq <| zsr <| zpn 2 <| zld ⟨b1, 2, none⟩ (.slice m.dA m.dats.length m.dc) (blk_cell (M30.get 0 rfl) rfl) <| zpn 3 ?_
 obtain ⟨B33, hB33⟩ : ∃ B : Bool, B = decide (((k : Int) : Int) < ((m.dats.length : Nat) : Int)) := ⟨_, rfl⟩
 refine zkp [(1, (pT b1 0)), (3, (.int .i64 nk)), (5, (nV k)), (40, (.bool (decide (((k : Int) : Int) < ((m.dats.length : Nat) : Int)))))] ?_
 rw [← hB33]
 have iB33 : B33 = true ↔ (((k : Int) : Int) < ((m.dats.length : Nat) : Int)) := by rw [hB33]; simp only [decide_eq_true_eq]
 clear hB33
 intro aC fr
 refine zpk 3 9 [43] fr (news := [(43, (.bool (B33 && decide ((nk : Int) ≤ 25000))))]) (by cases B33 <;> kernel_rfl) ?_
 intro aC fr
 revert aC
 refine zfe <| zcP (B33 && decide ((nk : Int) ≤ 25000)) ((((k : Int) : Int) < ((m.dats.length : Nat) : Int)) ∧ ((nk : Int) ≤ 25000)) (by simp only [Bool.and_eq_true, decide_eq_true_eq, iB33]) (fun c38 => ?_) (fun c38 => ?_)
 refine zsk <| zsq <| zbk 3 ?_
 obtain ⟨d, hd1⟩ := get_of (l := m.dats) (i := k) (by omega)
 have hdI := hI.dats d (List.mem_of_getElem? hd1)
 have hdw := hdI.2.1
 have hdr := hdI.2.2.1
 unfold LenOk at hdw hdr
 obtain ⟨ad39, had40⟩ := rds_some (M30.ro hR.m_dats) (cs := d.cells) (i := k) (by rw [List.getElem?_map, hd1]; rfl)
 obtain ⟨ad41, had42⟩ := rds_some (M30.ro hR.m_dats) (cs := d.cells) (i := k) (by rw [List.getElem?_map, hd1]; rfl)
 refine zkp [(1, (pT b1 0)), (3, (.int .i64 nk)), (5, (nV k))] ?_
 intro aC fr
 refine zdt 18 (N := 77) (env0 := [(1, (pT b1 0)), (3, (.int .i64 nk)), (5, (nV k))]) (specAt [.det (.int .i64 nk), .det (pT b1 2), .det (.slice m.dA m.dats.length m.dc), .det (nV k), .det (.pointer (some ((ad39 : Addr).add (((k : Int)).toNat * 4)))), .det (.pointer (some (((ad39 : Addr).add (((k : Int)).toNat * 4)).add 2))), .det (.slice d.wA d.words.length d.wc), .det (.int .i64 ((d.words.length : Nat) : Int)), .det (.int .i64 (min ((d.words.length : Nat) : Int) 30000)), .det (.int .i64 (nk + (min ((d.words.length : Nat) : Int) 30000))), .det (pT b1 2), .det (.slice m.dA m.dats.length m.dc), .det (nV k), .det (.pointer (some ((ad41 : Addr).add (((k : Int)).toNat * 4)))), .det (.pointer (some (((ad41 : Addr).add (((k : Int)).toNat * 4)).add 3))), .det (.slice d.rA d.refs.length d.rc), .det (.int .i64 ((d.refs.length : Nat) : Int)), .det (.int .i64 (min ((d.refs.length : Nat) : Int) 30000))]) fr (la (la (la (la (la (la (la (la (la (la (la (la (la (la (la (la (la (la lz dP) dP) (dL ⟨b1, 2, none⟩ (.slice m.dA m.dats.length m.dc) fun w_ hK => (blk_cell ((M30.then_ hK).get 0 rfl) rfl))) dP) (dIA m.dA ad39 m.dats.length 4 (k : Int) had40)) dP) (dL (((ad39 : Addr).add (((k : Int)).toNat * 4)).add 2) (.slice d.wA d.words.length d.wc) fun w_ hK => (rds_get ((M30.then_ hK).ro hR.m_dats) had40 (i := k) (cs := d.cells) (by rw [List.getElem?_map, hd1]; rfl) 2 _ rfl))) dP) (dMN .i64 ((d.words.length : Nat) : Int) 30000 (min ((d.words.length : Nat) : Int) 30000) (.tmp 53) (.const (.int .i64 30000)) #[3, 3] 3 none (by omega))) (dA (nk + (min ((d.words.length : Nat) : Int) 30000)))) dP) (dL ⟨b1, 2, none⟩ (.slice m.dA m.dats.length m.dc) fun w_ hK => (blk_cell ((M30.then_ hK).get 0 rfl) rfl))) dP) (dIA m.dA ad41 m.dats.length 4 (k : Int) had42)) dP) (dL (((ad41 : Addr).add (((k : Int)).toNat * 4)).add 3) (.slice d.rA d.refs.length d.rc) fun w_ hK => (rds_get ((M30.then_ hK).ro hR.m_dats) had42 (i := k) (cs := d.cells) (by rw [List.getElem?_map, hd1]; rfl) 3 _ rfl))) dP) (dMN .i64 ((d.refs.length : Nat) : Int) 30000 (min ((d.refs.length : Nat) : Int) 30000) (.tmp 62) (.const (.int .i64 30000)) #[3, 3] 3 none (by omega))) ?_
 intro aC w47 vs hK hv fr
 revert aC; refine zkp [(1, (pT b1 0)), (5, (nV k)), (55, (.int .i64 (nk + (min ((d.words.length : Nat) : Int) 30000)))), (63, (.int .i64 (min ((d.refs.length : Nat) : Int) 30000)))] ?_
 have M48 := M30.then_ hK
 clear hK hv fr aC M30; clear vs
 refine zar ((nk + (min ((d.words.length : Nat) : Int) 30000)) + (min ((d.refs.length : Nat) : Int) 30000)) <| zpn 1 <| zfe <| zrg <| zpn 1 <| zar ((k : Int) + 1) <| zpn 1 <| zfe ?_
 intro aC fr
 exact ⟨m.dats.length - (k + 1), by omega, k + 1, ((nk + (min ((d.words.length : Nat) : Int) 30000)) + (min ((d.refs.length : Nat) : Int) 30000)), rfl, fr.kp [1, 3, 5], (M48.tk 1), by omega, fun h_ => by have e1 := hd (by omega); rw [datS_take hd1]; omega, by omega, by omega⟩
 refine zex 2 <| zbh <| zsr <| zpn 3 ?_
 obtain ⟨B51, hB51⟩ : ∃ B : Bool, B = decide ((nk : Int) > 25000) := ⟨_, rfl⟩
 refine zkp [(1, (pT b1 0)), (67, (.bool (decide ((nk : Int) > 25000))))] ?_
 rw [← hB51]
 have iB51 : B51 = true ↔ ((nk : Int) > 25000) := by rw [hB51]; simp only [decide_eq_true_eq]
 clear hB51
 intro aC fr
 refine zpk 1 4 [68] fr (news := [(68, (cond (!B51) (pT b1 1) undef))]) (by cases B51 <;> kernel_rfl) ?_
 intro aC fr
 refine From_either (B := (!B51)) (d := (some 69)) (.slice m.fA m.fns.length m.fc) fr (by cases B51 <;> kernel_rfl) (fun hB hh => ?_) ?_
 cases B51 <;> first | (exact absurd hB (by decide)) | skip
 have c51 : ¬ ((nk : Int) > 25000) := (fun h => Bool.noConfusion (iB51.2 h) : ¬ ((nk : Int) > 25000))
 exact From_ld (some 69) ⟨b1, 1, none⟩ fr (by kernel_rfl) (.slice m.fA m.fns.length m.fc) (blk_cell (M30.get 0 rfl) rfl) hh
 intro aC fr
 refine zpk 2 7 [70, 71] fr (news := [(70, (cond (!B51) (.int .i64 ((m.fns.length : Nat) : Int)) undef)), (71, (cond (!B51) (pT b1 2) undef))]) (by cases B51 <;> kernel_rfl) ?_
 intro aC fr
 refine From_either (B := (!B51)) (d := (some 72)) (.slice m.dA m.dats.length m.dc) fr (by cases B51 <;> kernel_rfl) (fun hB hh => ?_) ?_
 cases B51 <;> first | (exact absurd hB (by decide)) | skip
 have c51 : ¬ ((nk : Int) > 25000) := (fun h => Bool.noConfusion (iB51.2 h) : ¬ ((nk : Int) > 25000))
 exact From_ld (some 72) ⟨b1, 2, none⟩ fr (by kernel_rfl) (.slice m.dA m.dats.length m.dc) (blk_cell (M30.get 0 rfl) rfl) hh
 intro aC fr
 refine zpk 1 9 [73] fr (news := [(73, (cond (!B51) (.int .i64 ((m.dats.length : Nat) : Int)) undef))]) (by cases B51 <;> kernel_rfl) ?_
 intro aC fr
 refine From_either (B := (!B51)) (d := (some 74)) (.int .i64 (((m.fns.length : Nat) : Int) + ((m.dats.length : Nat) : Int))) fr (by cases B51 <;> kernel_rfl) (fun hB hh => ?_) ?_
 cases B51 <;> first | (exact absurd hB (by decide)) | skip
 have c51 : ¬ ((nk : Int) > 25000) := (fun h => Bool.noConfusion (iB51.2 h) : ¬ ((nk : Int) > 25000))
 exact From_ar (some 74) (((m.fns.length : Nat) : Int) + ((m.dats.length : Nat) : Int)) fr (z0 := ((m.fns.length : Nat) : Int) + ((m.dats.length : Nat) : Int)) (by kernel_rfl) rfl (by omega) (by omega) hh
 intro aC fr
 refine zpk 3 13 [2, 76] fr (news := [(2, (.bool (B51 || decide (((((m.fns.length : Nat) : Int) + ((m.dats.length : Nat) : Int)) : Int) > 200)))), (76, (.bool (B51 || decide (((((m.fns.length : Nat) : Int) + ((m.dats.length : Nat) : Int)) : Int) > 200))))]) (by cases B51 <;> kernel_rfl) ?_
 intro aC fr
 revert aC
 refine zfe <| zre <| zo1 (.bool (B51 || decide (((((m.fns.length : Nat) : Int) + ((m.dats.length : Nat) : Int)) : Int) > 200))) ?_
 have M68 := M30.od [] 0
 have hR : (B51 || decide (((((m.fns.length : Nat) : Int) + ((m.dats.length : Nat) : Int)) : Int) > 200)) = true ↔ (((nk : Int) > 25000) ∨ (((((m.fns.length : Nat) : Int) + ((m.dats.length : Nat) : Int)) : Int) > 200)) := by simp only [Bool.or_eq_true, decide_eq_true_eq, iB51]
 refine ⟨_, rfl, fun h_ => ?_, M68⟩
 have hn_ : ¬ (((nk : Int) > 25000) ∨ (((((m.fns.length : Nat) : Int) + ((m.dats.length : Nat) : Int)) : Int) > 200)) := fun h2 => Bool.noConfusion (h_.symm.trans (hR.2 h2))
 have hD : nk ≤ 25000 → nk = ((m.fns.length + m.dats.length + fnsN m.fns + datS m.dats : Nat) : Int) := fun h_ => by have e1 := hd h_; rw [List.take_of_length_le (by omega)] at e1; exact e1
 exact smB_of hD (by omega) (by omega)
end Go.Proofs.Ytdcgcjibgihbbaa

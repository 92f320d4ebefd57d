/-
  Texts of the proof, part 12.
-/
import Derived.Test.YtdcgcjibgihbbaaZg11
import Derived.Test.YtdcgcjibgihbbaaChecked
set_option maxRecDepth 10000
namespace Go.Proofs.Ytdcgcjibgihbbaa
open Go.Mor Go.ChangeShapes Go.WideShapes Go.ChangeAt Go.RowKit Go.Deep
theorem Try.own : ownKnob Try.prog.godebug = none := by kernel_rfl
theorem Try.laidOut : laidOutB Try.prog = true := by kernel_rfl
theorem list2 {α : Type} {cs : List α} (h : cs.length = 2) : ∃ c0 c1, cs = [c0, c1] := by
  match cs, h with
  | [c0, c1], _ => exact ⟨c0, c1, rfl⟩
theorem list3 {α : Type} {cs : List α} (h : cs.length = 3) : ∃ c0 c1 c2, cs = [c0, c1, c2] := by
  match cs, h with
  | [c0, c1, c2], _ => exact ⟨c0, c1, c2, rfl⟩
theorem list4 {α : Type} {cs : List α} (h : cs.length = 4) : ∃ c0 c1 c2 c3, cs = [c0, c1, c2, c3] := by
  match cs, h with
  | [c0, c1, c2, c3], _ => exact ⟨c0, c1, c2, c3, rfl⟩
theorem list5 {α : Type} {cs : List α} (h : cs.length = 5) : ∃ c0 c1 c2 c3 c4, cs = [c0, c1, c2, c3, c4] := by
  match cs, h with
  | [c0, c1, c2, c3, c4], _ => exact ⟨c0, c1, c2, c3, c4, rfl⟩
def Reach_ {H : Type} (t : TypeId) (d : DataW H) : Prop := ∀ n, n ∈ d.weights Try.prog t → n ≤ reachBytes
theorem len_ok {a k : Nat} (hk : 0 < k) (h : a * k ≤ reachBytes) : LenOk a := by
  have h1 : a * 1 ≤ a * k := Nat.mul_le_mul_left a hk
  have h2 := reachBytes_lt
  unfold LenOk
  omega
theorem weights_all {H : Type} {e : TypeId} {l : List (DataW H)} {d : DataW H} (h : d ∈ l) : ∀ n, n ∈ d.weights Try.prog e → n ∈ DataW.weightsAll Try.prog e l := by
  induction l with
  | nil => cases h
  | cons x l ih =>
    intro n hn
    unfold DataW.weightsAll
    rcases List.mem_cons.1 h with rfl | h
    · exact List.mem_append_left _ hn
    · exact List.mem_append_right _ (ih h n hn)
section
variable {H : Type} {enc : TypeId × Value → H} {w : World} {base : Nat} {spare : Nat → Bool} {held : Bool}
theorem i64_of {t : TypeId} (ht : Try.prog.underlying t = some (.int .i64)) {fuel : Nat} {v : Value} {x : DataW H × List MemPlace} (h : DataW.trod enc Try.prog w base spare held fuel t [v] = some x) : ∃ n, v = .int .i64 n ∧ In64 n := by
  obtain ⟨n, rfl, h1, h2⟩ := int_of ht h
  exact ⟨n, rfl, h1, h2⟩
theorem u8_of {t : TypeId} (ht : Try.prog.underlying t = some (.int .u8)) {fuel : Nat} {v : Value} {x : DataW H × List MemPlace} (h : DataW.trod enc Try.prog w base spare held fuel t [v] = some x) : ∃ n, v = .int .u8 n ∧ 0 ≤ n ∧ n ≤ 255 := by
  obtain ⟨n, rfl, h1, h2⟩ := int_of ht h
  exact ⟨n, rfl, h1, h2⟩
theorem str_of {t : TypeId} (ht : Try.prog.underlying t = some .string) {fuel : Nat} {v : Value} {x : DataW H × List MemPlace} (h : DataW.trod enc Try.prog w base spare held fuel t [v] = some x) (hz : Reach_ t x.1) : ∃ s, v = .string s ∧ LenOk s.size := by
  obtain ⟨s, h1, h3, _⟩ := DataW.trod_string ht h
  simp at h1
  subst h3
  refine ⟨s, h1, len_ok (k := 1) Nat.one_pos ?_⟩
  have := hz s.data.toList.length (by simp [DataW.weights])
  rw [Nat.mul_one]
  simpa using this
theorem bool_of {t : TypeId} (ht : Try.prog.underlying t = some .bool) {fuel : Nat} {v : Value} {x : DataW H × List MemPlace} (h : DataW.trod enc Try.prog w base spare held fuel t [v] = some x) : ∃ b, v = .bool b := by
  obtain ⟨b, hb, _⟩ := DataW.trod_bool ht h
  simp at hb
  exact ⟨b, hb⟩
theorem fields_of3 {t : TypeId} {fs : Array Field} (hs : Try.prog.underlying t = some (.struct fs)) (hone : oneCellFields Try.prog fs = true) (hC : Try.prog.cellsOf t = fs.size) {fuel : Nat} {cs : List Value} {x : DataW H × List MemPlace}
    (h : DataW.trod enc Try.prog w base spare held fuel t cs = some x) (hz : Reach_ t x.1) :
    cs.length = fs.size ∧ ∃ n : Nat, n < fuel ∧ ∀ (i : Nat) (f : Field), fs[i]? = some f → ∃ (v : Value) (y : DataW H × List MemPlace), cs[i]? = some v ∧ DataW.trod enc Try.prog w base spare held n f.type [v] = some y ∧ Reach_ f.type y.1 := by
  obtain ⟨xs, n, hn, hxe, hlen, hxs, hf⟩ := DataW.trod_struct hs h
  rw [hC] at hlen
  refine ⟨hlen, n, by omega, fun i f hi => ?_⟩
  have hlt : i < fs.size := (Array.getElem?_eq_some_iff.1 hi).1
  obtain ⟨ho, hc1⟩ := hone_of hone i f hi
  have h1 := hf i f hi
  rw [ho, hc1, take1_drop cs i undef (by omega)] at h1
  rw [List.getElem?_eq_getElem (by omega : i < xs.length)] at h1
  refine ⟨cs[i]'(by omega), xs[i]'(by omega), List.getElem?_eq_getElem (by omega), ?_, fun m hm => hz m ?_⟩
  · rw [← h1]
    simp [List.getD, List.getElem?_eq_getElem (by omega : i < cs.length)]
  · subst hxe
    simp only [DataW.weights, hs]
    exact DataW.weights_mem_each (j := i) (by rw [List.getElem?_map]; simp [hi]) (by rw [List.getElem?_map, List.getElem?_eq_getElem (by omega)]; rfl) m hm
theorem open_elems3 {t e : TypeId} {k : Nat} (ht : Try.prog.underlying t = some (.slice e)) (hb : Try.prog.bytesOf e = k) (hk : 0 < k)
    {fuel : Nat} {v : Value} {x : DataW H × List MemPlace} (h : DataW.trod enc Try.prog w base spare held fuel t [v] = some x) (hz : Reach_ t x.1) :
    ∃ A len cap, v = .slice A len cap ∧ LenOk len ∧ len ≤ cap ∧ ∀ i, i < len → ∃ (ad : Addr) (cs : List Value) (n : Nat) (y : DataW H × List MemPlace), n < fuel ∧ A = some ad ∧ cs.length = Try.prog.cellsOf e ∧
      (∀ (j : Nat) (v : Value), cs[j]? = some v → w.cell? ((ad.add (i * Try.prog.cellsOf e)).add j) = some v) ∧ DataW.trod enc Try.prog w base spare held n e cs = some y ∧ Reach_ e y.1 := by
  rcases DataW.trod_slice ht h with ⟨hcs, _⟩ | ⟨a, len, cap, elems, rest, n, hn, hcs, hxe, _, hlc, _, hel, hx, _⟩
  · simp at hcs
    subst hcs
    exact ⟨none, 0, 0, rfl, by simp [LenOk], Nat.le_refl _, fun i hi => absurd hi (Nat.not_lt_zero _)⟩
  · simp at hcs
    subst hcs
    subst hxe
    have hw : ∀ m, m ∈ (elems.map (·.1)).length * 0 :: DataW.weightsAll Try.prog e (elems.map (·.1)) → m ≤ reachBytes := by
      intro m hm
      rcases List.mem_cons.1 hm with rfl | hm
      · omega
      · refine hz m ?_
        simp only [DataW.weights, ht]
        exact List.mem_cons_of_mem _ (List.mem_append_left _ hm)
    refine ⟨some a, len, cap, rfl, ?_, hlc, fun i hi => ?_⟩
    · have h1 := hz (((elems.map (·.1)).length + (rest.map (·.1)).length) * Try.prog.bytesOf e) (by simp only [DataW.weights, ht]; exact List.mem_cons_self)
      rw [hb, List.length_map, List.length_map, hel] at h1
      exact len_ok hk (Nat.le_trans (Nat.mul_le_mul_right k (Nat.le_add_right _ _)) h1)
    · have h1 := hx i hi
      rw [List.getElem?_eq_getElem (by omega : i < elems.length)] at h1
      cases hc : w.cells? base (a.add (i * Try.prog.cellsOf e)) (Try.prog.cellsOf e) with
      | none => rw [hc] at h1; cases h1
      | some cs =>
        rw [hc] at h1
        obtain ⟨_, hlen, hcell⟩ := World.cells?_some hc
        refine ⟨a, cs, n, elems[i]'(by omega), by omega, rfl, hlen, fun j v hj => ?_, h1, fun m hm => hw m (List.mem_cons_of_mem _ (weights_all (d := (elems[i]'(by omega)).1) ?_ m hm))⟩
        · rw [hcell j (by have := (List.getElem?_eq_some_iff.1 hj).1; omega)]
          exact hj
        · exact List.mem_map.2 ⟨elems[i]'(by omega), List.getElem_mem _, rfl⟩
theorem open_list {α : Type} {f : α → List Value} {p : α → Prop} {t e : TypeId} {k : Nat} {fs : Array Field} (ht : Try.prog.underlying t = some (.slice e)) (hs : Try.prog.underlying e = some (.struct fs)) (hone : oneCellFields Try.prog fs = true) (hC : Try.prog.cellsOf e = fs.size) (hb : Try.prog.bytesOf e = k) (hk : 0 < k)
    {fuel : Nat} {v : Value} {x : DataW H × List MemPlace} (h : DataW.trod enc Try.prog w base spare held fuel t [v] = some x) (hz : Reach_ t x.1)
    (hx : ∀ (n : Nat) (cs : List Value), n < fuel → cs.length = fs.size → (∀ (j : Nat) (g : Field), fs[j]? = some g → ∃ (v : Value) (y : DataW H × List MemPlace), cs[j]? = some v ∧ DataW.trod enc Try.prog w base spare held n g.type [v] = some y ∧ Reach_ g.type y.1) → ∃ a, f a = cs ∧ p a) :
    ∃ A l c, v = .slice A (List.length l) c ∧ LenOk l.length ∧ l.length ≤ c ∧ (Res.rds A fs.size (l.map f)).holds w ∧ ∀ a, a ∈ l → p a := by
  obtain ⟨A, len, cap, rfl, hl, hlc, hel⟩ := open_elems3 ht hb hk h hz
  have : ∀ i, i < len → ∃ a : α, p a ∧ ∃ ad : Addr, A = some ad ∧ ∀ (j : Nat) (v : Value), (f a)[j]? = some v → w.cell? ((ad.add (i * fs.size)).add j) = some v := by
    intro i hi
    obtain ⟨ad, cs, n, y, hn, hA, hlen, hc, htr, hy⟩ := hel i hi
    rw [hC] at hlen hc
    obtain ⟨_, n', hn', hf⟩ := fields_of3 hs hone hC htr hy
    obtain ⟨a, rfl, ha⟩ := hx n' cs (by omega) hlen hf
    exact ⟨a, ha, ad, hA, hc⟩
  obtain ⟨l, rfl, hp⟩ := list_of this
  refine ⟨A, l, cap, rfl, hl, hlc, fun i cs hi => ?_, fun a ha => ?_⟩
  · rw [List.getElem?_map] at hi
    obtain ⟨b, hb, rfl⟩ := Option.map_eq_some_iff.1 hi
    exact (hp i b hb).2
  · obtain ⟨i, hi⟩ := List.mem_iff_getElem?.1 ha
    exact (hp i a hi).1
theorem open_vals {α : Type} {f : α → Value} {p : α → Prop} {t e : TypeId} {k : Nat} (ht : Try.prog.underlying t = some (.slice e)) (hC : Try.prog.cellsOf e = 1) (hb : Try.prog.bytesOf e = k) (hk : 0 < k)
    {fuel : Nat} {v : Value} {x : DataW H × List MemPlace} (h : DataW.trod enc Try.prog w base spare held fuel t [v] = some x) (hz : Reach_ t x.1)
    (hx : ∀ (n : Nat) (c : Value) (y : DataW H × List MemPlace), DataW.trod enc Try.prog w base spare held n e [c] = some y → Reach_ e y.1 → ∃ a, f a = c ∧ p a) :
    ∃ A l c, v = .slice A (List.length l) c ∧ LenOk l.length ∧ l.length ≤ c ∧ (Res.rd A (l.map f)).holds w ∧ ∀ a, a ∈ l → p a := by
  obtain ⟨A, len, cap, rfl, hl, hlc, hel⟩ := open_elems3 ht hb hk h hz
  have : ∀ i, i < len → ∃ a : α, p a ∧ ∃ ad : Addr, A = some ad ∧ w.cell? (ad.add i) = some (f a) := by
    intro i hi
    obtain ⟨ad, cs, n, y, hn, hA, hlen, hc, htr, hy⟩ := hel i hi
    rw [hC] at hlen hc
    match cs, hlen with
    | [c0], _ =>
      obtain ⟨a, rfl, ha⟩ := hx n c0 y htr hy
      refine ⟨a, ha, ad, hA, ?_⟩
      have h0 := hc 0 _ rfl
      rw [Nat.mul_one] at h0
      simpa [Addr.add] using h0
  obtain ⟨l, rfl, hp⟩ := list_of this
  refine ⟨A, l, cap, rfl, hl, hlc, fun i v hi => ?_, fun a ha => ?_⟩
  · rw [List.getElem?_map, Option.map_eq_some_iff] at hi
    obtain ⟨b, hb, rfl⟩ := hi
    exact (hp i b hb).2
  · obtain ⟨i, hi⟩ := List.mem_iff_getElem?.1 ha
    exact (hp i a hi).1
theorem exsI_all {l : List MEx} (h : ∀ e, e ∈ l → exI e) : exsI l := by
  induction l with
  | nil => trivial
  | cons e r ih => exact ⟨h e (List.mem_cons_self ..), ih fun x hx => h x (List.mem_cons_of_mem _ hx)⟩
theorem stsI_all {l : List MSt} (h : ∀ e, e ∈ l → stI e) : stsI l := by
  induction l with
  | nil => trivial
  | cons e r ih => exact ⟨h e (List.mem_cons_self ..), ih fun x hx => h x (List.mem_cons_of_mem _ hx)⟩
theorem open_mexs : ∀ (fuel : Nat) {v : Value} {x : DataW H × List MemPlace}, DataW.trod enc Try.prog w base spare held fuel 46 [v] = some x → Reach_ 46 x.1 →
    ∃ A l c, v = .slice A (List.length l) c ∧ LenOk l.length ∧ (Res.rds A 4 (l.map MEx.cells)).holds w ∧ exsI l ∧ ∀ r, r ∈ exsRes l → r.holds w := by
  intro fuel
  induction fuel using Nat.strongRecOn with
  | ind fuel ih =>
    intro v x h hz
    obtain ⟨A, l, c, rfl, hl, _, hr, hp⟩ := open_list (f := MEx.cells) (p := fun e => exI e ∧ ∀ r, r ∈ exRes e → r.holds w) (k := 56) Try.underlying46 Try.underlying53 (by kernel_rfl) (by kernel_rfl) (by kernel_rfl) (by omega) h hz (fun n cs hn hln hf => by
      obtain ⟨c0, c1, c2, c3, rfl⟩ := list4 hln
      obtain ⟨_, _, e, g0, zg0⟩ := hf 0 _ rfl
      cases e
      obtain ⟨o, rfl, ho⟩ := i64_of Try.underlying3 g0
      obtain ⟨_, _, e, g1, zg1⟩ := hf 1 _ rfl
      cases e
      obtain ⟨m, rfl, hm⟩ := i64_of Try.underlying2 g1
      obtain ⟨_, _, e, g2, zg2⟩ := hf 2 _ rfl
      cases e
      obtain ⟨nm, rfl, hnm⟩ := str_of Try.underlying9 g2 zg2
      obtain ⟨_, _, e, g3, zg3⟩ := hf 3 _ rfl
      cases e
      obtain ⟨B, ks, d, rfl, h1, h2, h3, h4⟩ := ih n hn g3 zg3
      refine ⟨⟨o, m, nm, B, d, ks⟩, rfl, ⟨⟨ho, hm, hnm, h1⟩, h3⟩, fun r hr => ?_⟩
      rw [exRes_eq] at hr
      rcases List.mem_cons.1 hr with rfl | hr
      · exact h2
      · exact h4 r hr)
    exact ⟨A, l, c, rfl, hl, hr, exsI_all fun e he => (hp e he).1, exs_res_of (p := fun r => r.holds w) fun e he => (hp e he).2⟩
theorem open_msts : ∀ (fuel : Nat) {v : Value} {x : DataW H × List MemPlace}, DataW.trod enc Try.prog w base spare held fuel 43 [v] = some x → Reach_ 43 x.1 →
    ∃ A l c, v = .slice A (List.length l) c ∧ LenOk l.length ∧ (Res.rds A 5 (l.map MSt.cells)).holds w ∧ stsI l ∧ ∀ r, r ∈ stsRes l → r.holds w := by
  intro fuel
  induction fuel using Nat.strongRecOn with
  | ind fuel ih =>
    intro v x h hz
    obtain ⟨A, l, c, rfl, hl, _, hr, hp⟩ := open_list (f := MSt.cells) (p := fun e => stI e ∧ ∀ r, r ∈ stRes e → r.holds w) (k := 88) Try.underlying43 Try.underlying48 (by kernel_rfl) (by kernel_rfl) (by kernel_rfl) (by omega) h hz (fun n cs hn hln hf => by
      obtain ⟨c0, c1, c2, c3, c4, rfl⟩ := list5 hln
      obtain ⟨_, _, e, g0, zg0⟩ := hf 0 _ rfl
      cases e
      obtain ⟨o, rfl, ho⟩ := i64_of Try.underlying3 g0
      obtain ⟨_, _, e, g1, zg1⟩ := hf 1 _ rfl
      cases e
      obtain ⟨m, rfl, hm⟩ := i64_of Try.underlying2 g1
      obtain ⟨_, _, e, g2, zg2⟩ := hf 2 _ rfl
      cases e
      obtain ⟨eA, es, ec, rfl, e1, e2, e3, e4⟩ := open_mexs n g2 zg2
      obtain ⟨_, _, e, g3, zg3⟩ := hf 3 _ rfl
      cases e
      obtain ⟨bA, bs, bc, rfl, b1, b2, b3, b4⟩ := ih n hn g3 zg3
      obtain ⟨_, _, e, g4, zg4⟩ := hf 4 _ rfl
      cases e
      obtain ⟨lA, ls, lc, rfl, l1, l2, l3, l4⟩ := ih n hn g4 zg4
      refine ⟨⟨o, m, eA, ec, es, bA, bc, bs, lA, lc, ls⟩, rfl, ⟨⟨ho, hm, e1, b1, l1⟩, e3, b3, l3⟩, fun r hr => ?_⟩
      rw [stRes_eq] at hr
      rcases List.mem_cons.1 hr with rfl | hr
      · exact e2
      rcases List.mem_cons.1 hr with rfl | hr
      · exact b2
      rcases List.mem_cons.1 hr with rfl | hr
      · exact l2
      rcases List.mem_append.1 hr with hr | hr
      · exact e4 r hr
      rcases List.mem_append.1 hr with hr | hr
      · exact b4 r hr
      · exact l4 r hr)
    exact ⟨A, l, c, rfl, hl, hr, stsI_all fun e he => (hp e he).1, sts_res_of (p := fun r => r.holds w) fun e he => (hp e he).2⟩
end
end Go.Proofs.Ytdcgcjibgihbbaa
namespace Go.Proofs.Ytdcgcjibgihbbaa
open Go.Mor Go.ChangeShapes Go.WideShapes Go.ChangeAt Go.RowKit Go.Deep
section
variable {H : Type} {enc : TypeId × Value → H} {w : World} {base : Nat} {spare : Nat → Bool} {held : Bool}
abbrev Fld (enc : TypeId × Value → H) (w : World) (base : Nat) (spare : Nat → Bool) (held : Bool) (n : Nat) (cs : List Value) (j : Nat) (t : TypeId) : Prop := ∃ (v : Value) (y : DataW H × List MemPlace), cs[j]? = some v ∧ DataW.trod enc Try.prog w base spare held n t [v] = some y ∧ Reach_ t y.1
abbrev FnOk (w : World) (f : TFn) : Prop := f.In ∧ ∀ r, r ∈ f.parts → r.holds w
abbrev DatOk (w : World) (d : FDat) : Prop := (LenOk d.nm.size ∧ LenOk d.words.length ∧ LenOk d.refs.length ∧ ∀ r, r ∈ d.refs → In64 r.1 ∧ LenOk r.2.size) ∧ (∀ x, x ∈ d.words → In64 x) ∧ ∀ r, r ∈ d.parts → r.holds w
abbrev ModOk (w : World) (m : TMod) : Prop := m.In0 ∧ ∀ r, r ∈ m.parts → r.holds w
theorem fn_of {n : Nat} {cs : List Value} (hln : cs.length = 5) (f0 : Fld enc w base spare held n cs 0 9) (f1 : Fld enc w base spare held n cs 1 4) (f2 : Fld enc w base spare held n cs 2 3) (f3 : Fld enc w base spare held n cs 3 3) (f4 : Fld enc w base spare held n cs 4 43) : ∃ f : TFn, f.cells = cs ∧ FnOk w f := by
  obtain ⟨c0, c1, c2, c3, c4, rfl⟩ := list5 hln
  obtain ⟨_, _, e, g0, zg0⟩ := f0
  cases e
  obtain ⟨nm, rfl, hnm⟩ := str_of Try.underlying9 g0 zg0
  obtain ⟨_, _, e, g1, _⟩ := f1
  cases e
  obtain ⟨wk, rfl⟩ := bool_of Try.underlying4 g1
  obtain ⟨_, _, e, g2, _⟩ := f2
  cases e
  obtain ⟨pa, rfl, hpa⟩ := i64_of Try.underlying3 g2
  obtain ⟨_, _, e, g3, _⟩ := f3
  cases e
  obtain ⟨lo, rfl, hlo⟩ := i64_of Try.underlying3 g3
  obtain ⟨_, _, e, g4, zg4⟩ := f4
  cases e
  obtain ⟨A, l, c, rfl, h1, h2, h3, h4⟩ := open_msts n g4 zg4
  refine ⟨⟨nm, wk, pa, lo, A, c, l⟩, rfl, ⟨hnm, hpa, hlo, h1, h3⟩, fun r hr => ?_⟩
  have hr2 : r ∈ Res.rds A 5 (l.map MSt.cells) :: stsRes l := hr
  rcases List.mem_cons.1 hr2 with rfl | hr
  · exact h2
  · exact h4 r hr
theorem open_tfns {n : Nat} {v : Value} {x : DataW H × List MemPlace} (h : DataW.trod enc Try.prog w base spare held n 22 [v] = some x) (hz : Reach_ 22 x.1) :
    ∃ A l c, v = .slice A (List.length l) c ∧ LenOk l.length ∧ (Res.rds A 5 (l.map TFn.cells)).holds w ∧ ∀ f, f ∈ l → FnOk w f := by
  obtain ⟨A, l, c, rfl, hl, _, hr, hp⟩ := open_list (f := TFn.cells) (p := FnOk w) (k := 64) Try.underlying22 Try.underlying45 (by kernel_rfl) (by kernel_rfl) (by kernel_rfl) (by omega) h hz (fun n cs _ hln hf => fn_of hln (hf 0 _ rfl) (hf 1 _ rfl) (hf 2 _ rfl) (hf 3 _ rfl) (hf 4 _ rfl))
  exact ⟨A, l, c, rfl, hl, hr, hp⟩
theorem open_refs {n : Nat} {v : Value} {x : DataW H × List MemPlace} (h : DataW.trod enc Try.prog w base spare held n 57 [v] = some x) (hz : Reach_ 57 x.1) :
    ∃ A l c, v = .slice A (List.length l) c ∧ LenOk l.length ∧ (Res.rds A 2 (l.map refCells)).holds w ∧ ∀ r : Int × ByteArray, r ∈ l → In64 r.1 ∧ LenOk r.2.size := by
  obtain ⟨A, l, c, rfl, hl, _, hr, hp⟩ := open_list (f := refCells) (p := fun r => In64 r.1 ∧ LenOk r.2.size) (k := 24) Try.underlying57 Try.underlying96 (by kernel_rfl) (by kernel_rfl) (by kernel_rfl) (by omega) h hz (fun n cs _ hln hf => by
    obtain ⟨c0, c1, rfl⟩ := list2 hln
    obtain ⟨_, _, e, g0, _⟩ := hf 0 _ rfl
    cases e
    obtain ⟨o, rfl, ho⟩ := i64_of Try.underlying3 g0
    obtain ⟨_, _, e, g1, zg1⟩ := hf 1 _ rfl
    cases e
    obtain ⟨nm, rfl, hnm⟩ := str_of Try.underlying9 g1 zg1
    exact ⟨(o, nm), rfl, ho, hnm⟩)
  exact ⟨A, l, c, rfl, hl, hr, hp⟩
theorem open_dats {n : Nat} {v : Value} {x : DataW H × List MemPlace} (h : DataW.trod enc Try.prog w base spare held n 23 [v] = some x) (hz : Reach_ 23 x.1) :
    ∃ A l c, v = .slice A (List.length l) c ∧ LenOk l.length ∧ (Res.rds A 4 (l.map FDat.cells)).holds w ∧ ∀ d, d ∈ l → DatOk w d := by
  obtain ⟨A, l, c, rfl, hl, _, hr, hp⟩ := open_list (f := FDat.cells) (p := DatOk w) (k := 72) Try.underlying23 Try.underlying59 (by kernel_rfl) (by kernel_rfl) (by kernel_rfl) (by omega) h hz (fun n cs _ hln hf => by
    obtain ⟨c0, c1, c2, c3, rfl⟩ := list4 hln
    obtain ⟨_, _, e, g0, zg0⟩ := hf 0 _ rfl
    cases e
    obtain ⟨nm, rfl, hnm⟩ := str_of Try.underlying9 g0 zg0
    obtain ⟨_, _, e, g1, _⟩ := hf 1 _ rfl
    cases e
    obtain ⟨wk, rfl⟩ := bool_of Try.underlying4 g1
    obtain ⟨_, _, e, g2, zg2⟩ := hf 2 _ rfl
    cases e
    obtain ⟨wA, ws, wc, rfl, w1, _, w2, w3⟩ := open_vals (f := Value.int .i64) (p := In64) (k := 8) Try.underlying56 (by kernel_rfl) (by kernel_rfl) (by omega) g2 zg2 (fun n c y hy _ => by
      obtain ⟨k, rfl, hk⟩ := i64_of Try.underlying2 hy
      exact ⟨k, rfl, hk⟩)
    obtain ⟨_, _, e, g3, zg3⟩ := hf 3 _ rfl
    cases e
    obtain ⟨rA, rs, rc, rfl, r1, r2, r3⟩ := open_refs g3 zg3
    refine ⟨⟨nm, wk, wA, wc, ws, rA, rc, rs⟩, rfl, ⟨hnm, w1, r1, r3⟩, w3, fun r hr => ?_⟩
    simp only [FDat.parts, List.mem_cons, List.not_mem_nil, or_false] at hr
    rcases hr with rfl | rfl
    · exact w2
    · exact r2)
  exact ⟨A, l, c, rfl, hl, hr, hp⟩
theorem mod_of {n : Nat} {cs : List Value} (hln : cs.length = 3) (f0 : Fld enc w base spare held n cs 0 9) (f1 : Fld enc w base spare held n cs 1 22) (f2 : Fld enc w base spare held n cs 2 23) : ∃ m : TMod, m.cells = cs ∧ ModOk w m := by
  obtain ⟨c0, c1, c2, rfl⟩ := list3 hln
  obtain ⟨_, _, e, g0, zg0⟩ := f0
  cases e
  obtain ⟨nm, rfl, _⟩ := str_of Try.underlying9 g0 zg0
  obtain ⟨_, _, e, g1, zg1⟩ := f1
  cases e
  obtain ⟨fA, fs, fc, rfl, h1, h2, h3⟩ := open_tfns g1 zg1
  obtain ⟨_, _, e, g2, zg2⟩ := f2
  cases e
  obtain ⟨dA, ds, dc, rfl, d1, d2, d3⟩ := open_dats g2 zg2
  refine ⟨⟨nm, fA, fc, fs, dA, dc, ds⟩, rfl, ⟨h1, d1, fun f hf => (h3 f hf).1, fun d hd => (d3 d hd).1, fun d hd => (d3 d hd).2.1⟩, fun r hr => ?_⟩
  have hr2 : r ∈ Res.rds fA 5 (fs.map TFn.cells) :: .rds dA 4 (ds.map FDat.cells) :: (fs.flatMap TFn.parts ++ ds.flatMap FDat.parts) := hr
  rcases List.mem_cons.1 hr2 with rfl | hr
  · exact h2
  rcases List.mem_cons.1 hr with rfl | hr
  · exact d2
  rcases List.mem_append.1 hr with hr | hr
  · obtain ⟨f, hf, hr⟩ := List.mem_flatMap.1 hr
    exact (h3 f hf).2 r hr
  · obtain ⟨d, hd, hr⟩ := List.mem_flatMap.1 hr
    exact (d3 d hd).2.2 r hr
variable {r : Reach} {b0 : Nat} {v : Value} {d : DataW H} {p : List MemPlace}
theorem open_mods (hok : Value.okWide Try.prog w r b0 32 v) (h : DataW.Trod enc Try.prog w base spare held 32 v d p) (hz : Reach_ 32 d) :
    ∃ A l c, v = .slice A (List.length l) c ∧ LenOk l.length ∧ RO noS w (.mods A l) ∧ ∀ m : TMod, m ∈ l → m.In0 := by
  obtain ⟨A, len, cap, rfl⟩ := okWide_slice Try.underlying32 hok
  obtain ⟨fuel, h⟩ := h
  obtain ⟨A', l, c, e, hl, _, hr, hp⟩ := open_list (f := TMod.cells) (p := ModOk w) (k := 64) Try.underlying32 Try.underlying25 (by kernel_rfl) (by kernel_rfl) (by kernel_rfl) (by omega) (v := .slice A len cap) h hz (fun n cs _ hln hf => mod_of hln (hf 0 _ rfl) (hf 1 _ rfl) (hf 2 _ rfl))
  injection e with e1 e2 e3
  subst e1 e2 e3
  refine ⟨A, l, cap, rfl, hl, RO.of fun r hr2 => ?_, fun m hm => (hp m hm).1⟩
  rcases List.mem_cons.1 hr2 with rfl | hr2
  · exact hr
  · obtain ⟨m, hm, hr2⟩ := List.mem_flatMap.1 hr2
    exact (hp m hm).2 r hr2
theorem open_bytes (hok : Value.okWide Try.prog w r b0 34 v) (h : DataW.Trod enc Try.prog w base spare held 34 v d p) (hz : Reach_ 34 d) :
    ∃ A l c, v = .slice A (List.length l) c ∧ LenOk l.length ∧ l.length ≤ c ∧ (∀ b, b ∈ l → 0 ≤ b ∧ b ≤ 255) ∧ (Res.rd A (u8s l)).holds w := by
  obtain ⟨A, len, cap, rfl⟩ := okWide_slice Try.underlying34 hok
  obtain ⟨fuel, h⟩ := h
  obtain ⟨A', l, c, e, hl, hlc, hr, hp⟩ := open_vals (f := Value.int .u8) (p := fun b => 0 ≤ b ∧ b ≤ 255) (k := 1) Try.underlying34 (by kernel_rfl) (by kernel_rfl) (by omega) (v := .slice A len cap) h hz (fun n c y hy _ => by
    obtain ⟨k, rfl, hk⟩ := u8_of Try.underlying5 hy
    exact ⟨k, rfl, hk⟩)
  injection e with e1 e2 e3
  subst e1 e2 e3
  exact ⟨A, l, cap, rfl, hl, hlc, hp, hr⟩
theorem open_strs (hok : Value.okWide Try.prog w r b0 33 v) (h : DataW.Trod enc Try.prog w base spare held 33 v d p) (hz : Reach_ 33 d) :
    ∃ A l c, v = .slice A (List.length l) c ∧ LenOk l.length ∧ (Res.rd A (l.map Value.string)).holds w := by
  obtain ⟨A, len, cap, rfl⟩ := okWide_slice Try.underlying33 hok
  obtain ⟨fuel, h⟩ := h
  obtain ⟨A', l, c, e, hl, _, hr, _⟩ := open_vals (f := Value.string) (p := fun _ => True) (k := 16) Try.underlying33 (by kernel_rfl) (by kernel_rfl) (by omega) (v := .slice A len cap) h hz (fun n c y hy hz => by
    obtain ⟨k, rfl, _⟩ := str_of Try.underlying9 hy hz
    exact ⟨k, rfl, trivial⟩)
  injection e with e1 e2 e3
  subst e1 e2 e3
  exact ⟨A, l, cap, rfl, hl, hr⟩
theorem trodAll_five {P : Program} {t0 t1 t2 t3 t4 : TypeId} {args : Array Value} {ds : List (DataW H)} {ps : List MemPlace} (h : DataW.TrodAll enc P w base spare held [t0, t1, t2, t3, t4] args.toList ds ps) :
    ∃ v0 v1 v2 v3 v4 d0 d1 d2 d3 d4 p0 p1 p2 p3 p4, args = #[v0, v1, v2, v3, v4] ∧ ds = [d0, d1, d2, d3, d4] ∧ DataW.Trod enc P w base spare held t0 v0 d0 p0 ∧ DataW.Trod enc P w base spare held t1 v1 d1 p1 ∧ DataW.Trod enc P w base spare held t2 v2 d2 p2 ∧ DataW.Trod enc P w base spare held t3 v3 d3 p3 ∧ DataW.Trod enc P w base spare held t4 v4 d4 p4 := by
  obtain ⟨v0, r0, d0, e0, p0, q0, hargs, rfl, _, h0, g0⟩ := trodAll_cons h
  obtain ⟨v1, r1, d1, e1, p1, q1, rfl, rfl, _, h1, g1⟩ := trodAll_cons g0
  obtain ⟨v2, r2, d2, e2, p2, q2, rfl, rfl, _, h2, g2⟩ := trodAll_cons g1
  obtain ⟨v3, r3, d3, e3, p3, q3, rfl, rfl, _, h3, g3⟩ := trodAll_cons g2
  obtain ⟨v4, r4, d4, e4, p4, q4, rfl, rfl, _, h4, g4⟩ := trodAll_cons g3
  obtain ⟨rfl, rfl, _⟩ := trodAll_nil g4
  exact ⟨v0, v1, v2, v3, v4, d0, d1, d2, d3, d4, p0, p1, p2, p3, p4, by cases args; simp_all, rfl, h0, h1, h2, h3, h4⟩
end
end Go.Proofs.Ytdcgcjibgihbbaa
namespace Go.Mor
open Go.RowKit
def caseE (lo mo : Int) (bn bm : Bool) (sz k : Nat) : Prop := bn = true ∧ (bm = true ↔ sz ≠ 0) ∧ (bm = true → 1 ≤ sz ∧ sz ≤ 60) ∧ lo ≤ (k : Int) ∧ (k : Int) ≤ mo
section
variable {lo mo : Int} {bn bm : Bool} {sz k : Nat} {N : Prop}
theorem caseEF (hn : bn = true ↔ N) : caseE lo mo bn false sz k ↔ (N ∧ sz = 0 ∧ lo ≤ (k : Int) ∧ (k : Int) ≤ mo) := by
  unfold caseE
  rw [hn]
  simp only [Bool.false_eq_true, false_iff, ne_eq, Decidable.not_not, false_implies, true_and]
theorem caseET (hn : bn = true ↔ N) : caseE lo mo bn true sz k ↔ (N ∧ (1 ≤ sz ∧ sz ≤ 60) ∧ lo ≤ (k : Int) ∧ (k : Int) ≤ mo) := by
  unfold caseE
  rw [hn]
  simp only [true_iff, ne_eq, true_implies]
  constructor
  · rintro ⟨h1, h2, h3, h4, h5⟩; exact ⟨h1, h3, h4, h5⟩
  · rintro ⟨h1, h3, h4, h5⟩; exact ⟨h1, by omega, h3, h4, h5⟩
theorem rex_iff {nm : ByteArray} {x : Bool} {Q : Prop} {d : Int} (hx : (x = true) = (nm.size = 0)) (hs : Q ↔ caseE lo mo bn bm nm.size k) :
    ((((((¬ (bn = true)) ∨ (¬ (bm = (!x)))) ∨ ((bm = true) ∧ (¬ (nameQ nm)))) ∨ ((k : Int) < lo)) ∨ ((k : Int) > mo)) ∨ (d > 100)) ↔ ¬ (d ≤ 100 ∧ Q) := by
  rw [hs]
  constructor
  · rintro h ⟨hd, h1, h2, h3, h4, h5⟩
    rcases h with ((((h | h) | h) | h) | h) | h
    · exact h h1
    · have h6 : bm = true ↔ ¬ x = true := h2.trans (not_congr (by rw [hx]))
      exact h (by cases bm <;> cases x <;> simp at h6 ⊢)
    · exact h.2 (h3 h.1)
    · omega
    · omega
    · omega
  · intro h
    refine Classical.byContradiction fun hc => h ?_
    have a1 : bn = true := Classical.byContradiction fun e => hc (.inl (.inl (.inl (.inl (.inl e)))))
    have a2 : bm = (!x) := Classical.byContradiction fun e => hc (.inl (.inl (.inl (.inl (.inr e)))))
    have a3 : bm = true → nameQ nm := fun e => Classical.byContradiction fun e2 => hc (.inl (.inl (.inl (.inr ⟨e, e2⟩))))
    have a4 : ¬ (k : Int) < lo := fun e => hc (.inl (.inl (.inr e)))
    have a5 : ¬ (k : Int) > mo := fun e => hc (.inl (.inr e))
    have a6 : ¬ d > 100 := fun e => hc (.inr e)
    refine ⟨by omega, a1, ?_, a3, by omega, by omega⟩
    have h6 : (!x) = true ↔ ¬ x = true := by cases x <;> simp
    rw [a2, h6, hx]
theorem litT' : (true = true) ↔ True := by simp
theorem litF' : (false = true) ↔ False := by simp
end
def RExOk (P : Program) (e : MEx) : Prop := ∀ (lo d : Int) (T : List Res) (w : World), 0 ≤ d → d ≤ 1000 → RO noS w (.all T) → SubE T e → exI e →
  Calls P 80 #[.agg e.cells.toArray, .int .i64 lo, .int .i64 d] w (Ret fun v w' => v = .bool (exV lo d e) ∧ Mem noS w w' [])
def RStOk (P : Program) (l : List MSt) : Prop := ∀ (A : Option Addr) (c : Nat) (lo d lp : Int) (T : List Res) (w : World), 0 ≤ d → d ≤ 1000 → 0 ≤ lp → lp ≤ d → RO noS w (.all T) → SubXs T A l → stsI l → LenOk l.length →
  Calls P 51 #[.slice A l.length c, .int .i64 lo, .int .i64 d, .int .i64 lp] w (Ret fun v w' => v = .bool (stsV lo lp d l) ∧ Mem noS w w' [])
def RSxOk (P : Program) (x : MSt) : Prop := ∀ (lo d lp : Int) (T : List Res) (w : World), 0 ≤ d → d ≤ 1000 → 0 ≤ lp → lp ≤ d → RO noS w (.all T) → SubX T x → stI x →
  Calls P 69 #[.agg x.cells.toArray, .int .i64 lo, .int .i64 d, .int .i64 lp] w (Ret fun v w' => v = .bool (stV lo lp d x) ∧ Mem noS w w' [])
def caseS (le mo : Int) (bn bb bo : Bool) (ke kb kl : Nat) : Prop := bn = true ∧ (le ≤ (ke : Int) ∧ (ke : Int) ≤ mo) ∧ (bb = true ∨ kb = 0) ∧ (bo = true ∨ kl = 0)
section
variable {le mo d : Int} {bn bb bo : Bool} {ke kb kl : Nat} {N Q : Prop}
theorem caseS_FF (hn : bn = true ↔ N) : caseS le mo bn false false ke kb kl ↔ (N ∧ (le ≤ (ke : Int) ∧ (ke : Int) ≤ mo) ∧ kb = 0 ∧ kl = 0) := by unfold caseS; rw [hn]; simp
theorem caseS_TF (hn : bn = true ↔ N) : caseS le mo bn true false ke kb kl ↔ (N ∧ (le ≤ (ke : Int) ∧ (ke : Int) ≤ mo) ∧ kl = 0) := by unfold caseS; rw [hn]; simp
theorem caseS_TT (hn : bn = true ↔ N) : caseS le mo bn true true ke kb kl ↔ (N ∧ (le ≤ (ke : Int) ∧ (ke : Int) ≤ mo)) := by unfold caseS; rw [hn]; simp
theorem rst_iff (hs : Q ↔ caseS le mo bn bb bo ke kb kl) :
    ((((((¬ (bn = true)) ∨ ((ke : Int) < le)) ∨ ((ke : Int) > mo)) ∨ ((¬ (bb = true)) ∧ ((kb : Int) > 0))) ∨ ((¬ (bo = true)) ∧ ((kl : Int) > 0))) ∨ (d > 100)) ↔ ¬ (d ≤ 100 ∧ Q) := by
  rw [hs]
  unfold caseS
  cases bn <;> cases bb <;> cases bo <;> simp <;> omega
end
theorem ba_same {a b : ByteArray} : a.toList = b.toList ↔ a = b := by
  constructor
  · intro h
    rw [ByteArray.toList_eq, ByteArray.toList_eq] at h
    exact ba_ext h
  · intro h; rw [h]
section
variable {α κ : Type} {key : α → κ} {l : List α} {g f : α} {k j : Nat}
theorem nin_zero (c : κ) : c ∉ (l.take 0).map key := by simp
theorem nin_succ {c : κ} (h : c ∉ (l.take k).map key) (hg : l[k]? = some g) (hne : ¬ key g = c) : c ∉ (l.take (k + 1)).map key := by
  rw [List.take_add_one, hg, List.map_append, List.mem_append]
  rintro (h1 | h1)
  · exact h h1
  · simp at h1; exact hne h1.symm
theorem nin_no {c : κ} (hk : k < j) (hg : l[k]? = some g) (he : key g = c) : c ∈ (l.take j).map key := by
  refine List.mem_map.2 ⟨g, ?_, he⟩
  exact List.mem_of_getElem? (i := k) (by rw [List.getElem?_take_of_lt hk]; exact hg)
end
theorem Cnt.upto {most a b n : Int} (h : Cnt most 0 a n) (hab : a ≤ b) (hc : ¬ n ≤ most ∨ a = b) : Cnt most 0 b n := by
  unfold Cnt at *
  omega
theorem datQ_len {d : FDat} (h : datQ d) : d.refs.length ≤ d.words.length := by
  have hn : (d.refs.map (·.1)).Nodup := by
    refine List.pairwise_iff_getElem.2 fun i j hi hj hij he => ?_
    have hj' : j < d.refs.length := by simpa using hj
    obtain ⟨r, hr⟩ := get_of (l := d.refs) (i := j) hj'
    obtain ⟨r', hr'⟩ := get_of (l := d.refs) (i := i) (by omega)
    simp only [List.getElem_map] at he
    have he2 : r'.1 = r.1 := by
      rw [(List.getElem?_eq_some_iff.1 hr).2.symm, (List.getElem?_eq_some_iff.1 hr').2.symm]
      exact he
    exact (h.1 j r hr).2.2 (nin_no (key := fun r : Int × ByteArray => r.1) hij hr' he2)
  have hr : ∀ x, x ∈ d.refs.map (·.1) → 0 ≤ x ∧ x < (d.words.length : Int) := fun x hx => by
    obtain ⟨r, hr, rfl⟩ := List.mem_map.1 hx
    obtain ⟨i, hi⟩ := List.mem_iff_getElem?.1 hr
    exact (h.1 i r hi).2.1
  have := nodupT_le hn hr
  rw [List.length_map] at this
  exact this
end Go.Mor
namespace Go.Mor
open Go.RowKit
structure ZSt where
  ov : Bool
  k : Int
  c : Int
  s : PSt
  N : Int
  V : Int
def er (s : PSt) : PSt := ⟨[], 0, 0, s.out, s.steps, 0⟩
section
variable {α β : Type}
def Got.no (g : Got α) : Got α := match g with
  | .ok a s => .ok a s
  | .stop k c s => .stop k c (er s)
def Eqv (a b : Got α) : Prop := a.no = b.no
def ZSt.go (z : ZSt) (K : PSt → Got α) : Got α := if z.ov then .stop z.k z.c z.s else K z.s
def ZSt.fin (z : ZSt) (k c : Int) : ZSt := if z.ov then z else { z with ov := true, k := k, c := c }
variable {a b : Got α} {G : Got β} {z z' : ZSt} {A : PSt → Got α} {K K' : PSt → Got β} {F : α → PSt → Got β} {x : α} {k c : Int}
theorem Eqv.bind (h : Eqv a b) (F : α → PSt → Got β) : Eqv (a.bind F) (b.bind F) := by
  unfold Eqv Got.no at h
  cases a <;> cases b <;> simp only [Got.ok.injEq, Got.stop.injEq, reduceCtorEq] at h
  · obtain ⟨rfl, rfl⟩ := h
    exact rfl
  · obtain ⟨rfl, rfl, h⟩ := h
    show Got.stop _ _ (er _) = Got.stop _ _ (er _)
    rw [h]
theorem go_bind : (z.go A).bind F = z.go fun s => (A s).bind F := by
  unfold ZSt.go
  split <;> rfl
theorem go_run (h : z.ov = false) : z.go K = K z.s := by unfold ZSt.go; rw [h]; rfl
theorem go_over (h : z.ov = true) : z.go K = .stop z.k z.c z.s := by unfold ZSt.go; rw [h]; rfl
theorem Eqv.step (hr : Eqv G (z.go fun s => (A s).bind F)) (h : Eqv (z.go A) (z'.go (Got.ok x))) : Eqv G (z'.go (F x)) := by
  have h2 := h.bind F
  rw [go_bind, go_bind] at h2
  exact Eq.trans hr h2
theorem Eqv.tail {A : PSt → Got β} {x : β} (hr : Eqv G (z.go A)) (h : Eqv (z.go A) (z'.go (Got.ok x))) : Eqv G (z'.go (Got.ok x)) := Eq.trans hr h
theorem Eqv.over (h : z.ov = true) (hr : Eqv G (z.go K)) : Eqv G (z.go K') := by
  rw [go_over h] at hr ⊢
  exact hr
theorem Eqv.mk_ (h : ∀ s, K s = K' s) (hr : Eqv G (z.go K)) : Eqv G (z.go K') := by
  have : K = K' := funext h
  rw [← this]
  exact hr
theorem Eqv.at_ (hr : Eqv G (z.go K)) (h : z.ov = false → Eqv (K z.s) (K' z.s)) : Eqv G (z.go K') := by
  cases hz : z.ov with
  | true => exact hr.over hz
  | false =>
    rw [go_run hz] at hr ⊢
    exact Eq.trans hr (h hz)
theorem Eqv.to (hr : Eqv G (z.go K)) (hz : z.ov = false) (hz' : z'.ov = false) (h : K z.s = K' z'.s) : Eqv G (z'.go K') := by
  rw [go_run hz] at hr
  rw [go_run hz', ← h]
  exact hr
theorem fin_ov : (z.fin k c).ov = true := by
  unfold ZSt.fin
  cases h : z.ov
  · rfl
  · exact h
theorem fin_of (h : z.ov = true) : z.fin k c = z := by unfold ZSt.fin; rw [h]; rfl
theorem fin_new (h : z.ov = false) : z.fin k c = { z with ov := true, k := k, c := c } := by unfold ZSt.fin; rw [h]; rfl
theorem fin_s : (z.fin k c).s = z.s := by
  unfold ZSt.fin
  cases z.ov <;> rfl
theorem Eqv.fin (hr : Eqv G (z.go K)) (h : z.ov = false → Eqv (K z.s) (.stop k c z.s)) : Eqv G ((z.fin k c).go K') := by
  cases hz : z.ov with
  | true =>
    have e : z.fin k c = z := by unfold ZSt.fin; rw [hz]; rfl
    rw [e]
    exact hr.over hz
  | false =>
    have e : z.fin k c = { z with ov := true, k := k, c := c } := by unfold ZSt.fin; rw [hz]; rfl
    rw [e, go_over rfl]
    rw [go_run hz] at hr
    exact Eq.trans hr (h hz)
theorem Eqv.got (h : Eqv (z.go A) (z'.go (Got.ok x))) (hz : z'.ov = false) : z.ov = false ∧ A z.s = .ok x z'.s := by
  rw [go_run hz] at h
  cases hv : z.ov with
  | true => rw [go_over hv] at h; unfold Eqv Got.no at h; cases h
  | false =>
    rw [go_run hv] at h
    refine ⟨rfl, ?_⟩
    unfold Eqv Got.no at h
    cases hA : A z.s with
    | ok y s => rw [hA] at h; exact h
    | stop k c s => rw [hA] at h; cases h
end
theorem wrap_in (x : Int) : In64 (IntKind.i64.wrap x) := by
  have h : ∀ m : Int, 0 ≤ m → m < 18446744073709551616 → In64 (if 9223372036854775808 ≤ m then m - 18446744073709551616 else m) := fun m h0 h1 => by
    unfold In64
    by_cases hm : 9223372036854775808 ≤ m
    · rw [if_pos hm]; omega
    · rw [if_neg hm]; omega
  have h2 := h (x % 18446744073709551616) (by omega) (by omega)
  unfold IntKind.wrap
  simpa [IntKind.signed, IntKind.bits] using h2
theorem in64_nat {n : Int} (h0 : 0 ≤ n) (h1 : n ≤ 9223372036854775807) : In64 n := ⟨by omega, h1⟩
theorem in64_0 : In64 0 := ⟨by decide, by decide⟩
theorem truth_in (b : Bool) : In64 (truthI b) := by cases b <;> exact ⟨by decide, by decide⟩
theorem tmod_in {a b : Int} (h : In64 a) : In64 (a.tmod b) := by
  unfold In64 at *
  have h2 : (a.tmod b).natAbs ≤ a.natAbs := by rw [Int.natAbs_tmod]; exact Nat.mod_le _ _
  by_cases h0 : 0 ≤ a
  · have := Int.tmod_nonneg b h0
    omega
  · have h3 := Int.tmod_nonneg b (show 0 ≤ -a by omega)
    rw [Int.neg_tmod] at h3
    omega
theorem fdiv_in {a : Int} {n : Nat} (h : In64 a) : In64 (a.fdiv (2 ^ n)) := by
  unfold In64 at *
  have hp : (1 : Int) ≤ 2 ^ n := by
    have : (1 : Nat) ≤ 2 ^ n := Nat.one_le_two_pow
    exact_mod_cast this
  rw [Int.fdiv_eq_ediv_of_nonneg _ (by omega)]
  by_cases h0 : 0 ≤ a
  · have h1 := Int.ediv_le_self (2 ^ n : Int) h0
    have h2 : 0 ≤ a / 2 ^ n := Int.ediv_nonneg h0 (by omega)
    omega
  · have h1 : a / 2 ^ n < 0 := Int.ediv_lt_of_lt_mul (by omega) (by omega)
    have h2 : a ≤ a / 2 ^ n := by
      rw [Int.le_ediv_iff_mul_le (by omega)]
      have h4 := Int.mul_le_mul_of_nonneg_left hp (show 0 ≤ -a by omega)
      rw [Int.neg_mul, Int.neg_mul] at h4
      omega
    omega
theorem fst_ite {P : Prop} [Decidable P] {p q : Int × Int} (hp : In64 p.1) (hq : In64 q.1) : In64 (if P then p else q).1 := by
  split
  · exact hp
  · exact hq
theorem bin_in {op a b : Int} (ha : In64 a) : In64 (binS op a b).1 := by
  unfold binS quoS shrI
  repeat' apply fst_ite
  all_goals first | exact wrap_in _ | exact in64_0 | exact truth_in _ | exact tmod_in ha | exact fdiv_in ha
theorem un_in {op a : Int} : In64 (unS op a).1 := by
  unfold unS
  repeat' apply fst_ite
  all_goals first | exact wrap_in _ | exact in64_0 | exact truth_in _
def LI (l : List Int) : Prop := ∀ x, x ∈ l → In64 x
def MI (s : PSt) : Prop := LI s.mem ∧ 0 ≤ s.next ∧ s.next ≤ 262144
theorem getD_in {l : List Int} (h : LI l) (i : Nat) : In64 (l.getD i 0) := by
  by_cases hi : i < l.length
  · have : l.getD i 0 = l[i] := by simp [List.getD, hi]
    rw [this]
    exact h _ (List.getElem_mem hi)
  · have : l.getD i 0 = 0 := by simp [List.getD, hi]
    rw [this]
    exact in64_0
theorem set_in {l : List Int} {i : Nat} {v : Int} (h : LI l) (hv : In64 v) : LI (l.set i v) := fun x hx => by
  rcases List.mem_or_eq_of_mem_set hx with h1 | h1
  · exact h x h1
  · rw [h1]; exact hv
def KI {α : Type} (p : α → Prop) (s : PSt) (g : Got α) : Prop := MI s → ∀ x s', g = .ok x s' → MI s' ∧ p x
section
variable {α β : Type} {p : α → Prop} {q : β → Prop} {s s2 : PSt}
theorem KI.bind {g : Got α} {f : α → PSt → Got β} (h : KI p s g) (hf : ∀ x s2, p x → KI q s2 (f x s2)) : KI q s (g.bind f) := by
  intro hs x s' he
  cases hg : g with
  | ok y s2 =>
    rw [gbind_ok hg] at he
    obtain ⟨h1, h2⟩ := h hs y s2 hg
    exact hf y s2 h2 h1 x s' he
  | stop k c s2 => rw [gbind_stop hg] at he; cases he
theorem KI.ok {x : α} (hm : MI s → MI s2) (h : p x) : KI p s (.ok x s2) := fun hs y s' he => by injection he with h1 h2; rw [← h1, ← h2]; exact ⟨hm hs, h⟩
theorem KI.stop {k c : Int} : KI p s (.stop k c s2 : Got α) := fun _ y s' he => by cases he
theorem KI.ite {P : Prop} [Decidable P] {a b : Got α} (ha : P → KI p s a) (hb : ¬ P → KI p s b) : KI p s (if P then a else b) := by
  split
  · exact ha ‹_›
  · exact hb ‹_›
theorem KI.same {g : Got α} (hm : MI s → MI s2) (h : KI p s2 g) : KI p s g := fun hs => h (hm hs)
end
structure EIn (E : EnvT) : Prop where
  names : ∀ nm n, lkp E.names nm = some n → In64 n
  data : ∀ nm n, lkp E.data nm = some n → In64 n
  inp : LI E.inp
  next : E.memN ≤ 262144
  fns : ∀ f, f ∈ E.tfs → f.WF
section
variable {E : EnvT} {s : PSt} {loc : List Int}
theorem step_ki {E : Env0} {s : PSt} : KI (fun _ => True) s (stepS E s) := by
  unfold stepS
  exact .ite (fun _ => .stop) (fun _ => .ok id trivial)
theorem at_ki {n : Int} : KI (fun _ => True) s (atS n s) := by unfold atS; exact .ite (fun _ => .stop) (fun _ => .ok id trivial)
theorem lk_ki {l : List (ByteArray × Int)} {nm : ByteArray} (h : ∀ nm n, lkp l nm = some n → In64 n) : KI In64 s (lkS l nm s) := by
  unfold lkS
  split
  · exact .ok id (h _ _ ‹_›)
  · exact .stop
theorem read_ki (hE : EIn E) : KI In64 s (readS E.toEnv0 s) := by
  unfold readS
  exact .ite (fun _ => .ok id (getD_in hE.inp _)) (fun _ => .ok id ⟨by decide, by decide⟩)
end
end Go.Mor
namespace Go.Mor
open Go.RowKit
section
variable {E : EnvT} {loc : List Int}
theorem kid_ki {ev : MEx → PSt → Got Int} {l : List MEx} (h : ∀ e, e ∈ l → ∀ s, KI In64 s (ev e s)) (i : Nat) (s : PSt) : KI In64 s (kidS ev l i s) := by
  unfold kidS
  split
  · exact h _ (List.mem_of_getElem? ‹_›) s
  · exact .stop
theorem kids_ki {ev : MEx → PSt → Got Int} : ∀ (l : List MEx), (∀ e, e ∈ l → ∀ s, KI In64 s (ev e s)) → ∀ s : PSt, KI LI s (kidsS ev l s)
  | [], _, s => .ok id (fun x hx => by cases hx)
  | k :: r, h, s => (h k (List.mem_cons_self ..) s).bind fun v s2 hv => (kids_ki r (fun e he => h e (List.mem_cons_of_mem _ he)) s2).bind fun m s3 hm => .ok id (fun x hx => by
      rcases List.mem_cons.1 hx with rfl | hx
      · exact hv
      · exact hm x hx)
theorem tail_in {l : List Int} (h : LI l) : LI l.tail := fun x hx => h x (List.mem_of_mem_tail hx)
theorem alloc_ki {n : Int} {s : PSt} (hE : EIn E) : KI In64 s (allocS E.toEnv0 n s) := by
  have hn := hE.next
  intro hs x s' he
  have h1 := hs.2.1
  have h2 := hs.2.2
  unfold allocS at he
  split at he
  · cases he
  split at he
  · cases he
  injection he with he1 he2
  rw [← he1, ← he2]
  exact ⟨⟨hs.1, by show 0 ≤ s.next + n; omega, by show s.next + n ≤ 262144; omega⟩, in64_nat h1 (by omega)⟩
theorem write_mi {v : Int} {s : PSt} (h : MI s) : MI (writeS v s) := by
  unfold writeS
  split
  · exact h
  · exact h
theorem expr_ki {call : Int → List Int → PSt → Got Int} {ev : MEx → PSt → Got Int} (hE : EIn E) {lo : Int} {e : MEx} (hW : ExW lo e) (hl : LI loc) (hc : ∀ n l s, LI l → KI In64 s (call n l s)) (h : ∀ k, k ∈ e.kids → ∀ s, KI In64 s (ev k s)) (s : PSt) : KI In64 s (exprF E call ev loc e s) := by
  refine step_ki.bind fun _ s _ => ?_
  unfold exprB
  have hk := fun i s => kid_ki h i s
  refine .ite (fun _ => .ok id hW.sh.n) fun _ => .ite (fun _ => .ok id (getD_in hl _)) fun _ => .ite (fun _ => ?_) fun _ => .ite (fun _ => ?_) fun _ => .ite (fun _ => ?_) fun _ => .ite (fun _ => ?_) fun _ => .ite (fun _ => ?_) fun _ =>
    .ite (fun _ => lk_ki hE.data) fun _ => .ite (fun _ => lk_ki hE.names) fun _ => .ite (fun _ => ?_) fun _ => .ite (fun _ => read_ki hE) fun _ => .ite (fun _ => ?_) fun _ => ?_
  · exact (hk _ s).bind fun a s ha => (hk _ s).bind fun b s _ => .ite (fun _ => .ok id (bin_in ha)) (fun _ => .stop)
  · exact (hk _ s).bind fun a s _ => .ok id un_in
  · exact (hk _ s).bind fun a s _ => at_ki.bind fun k s2 _ => fun hs => (KI.ok id (getD_in hs.1 _) : KI In64 s2 _) hs
  · exact (kids_ki _ h s).bind fun l s hl => (lk_ki hE.names).bind fun n s _ => hc n l s hl
  · exact (kids_ki _ h s).bind fun l s hl => hc _ _ s (tail_in hl)
  · exact (hk _ s).bind fun a s _ => alloc_ki hE
  · exact (hk _ s).bind fun a s _ => .ite (fun _ => hk _ s) (fun _ => hk _ s)
  · exact (hk _ s).bind fun a s _ => .ite (fun _ => .stop) (fun _ => hk _ s)
def FI (f : Frm) : Prop := LI f.loc ∧ In64 f.back
abbrev SKI (s : PSt) (g : Got (Int × Frm)) : Prop := KI (fun p => FI p.2) s g
theorem stm_ki {st : MSt → Frm → PSt → Got (Int × Frm)} : ∀ (l : List MSt), (∀ x, x ∈ l → ∀ f s, FI f → SKI s (st x f s)) → ∀ (f : Frm) (s : PSt), FI f → SKI s (stmS st l f s)
  | [], _, f, s, hf => .ok id hf
  | x :: r, h, f, s, hf => (h x (List.mem_cons_self ..) f s hf).bind fun p s2 hp => .ite (fun _ => .ok id hp) (fun _ => stm_ki r (fun y hy => h y (List.mem_cons_of_mem _ hy)) p.2 s2 hp)
theorem loop_ki {E : Env0} {stm : Frm → PSt → Got (Int × Frm)} (h : ∀ f s, FI f → SKI s (stm f s)) : ∀ (g : Nat) (f : Frm) (s : PSt), FI f → SKI s (loopF E stm g f s)
  | 0, f, s, _ => .stop
  | g + 1, f, s, hf => by
    refine step_ki.bind fun _ s _ => (h f s hf).bind fun p s2 hp => ?_
    exact .ite (fun _ => .ok id hp) (fun _ => .ite (fun _ => loop_ki h g p.2 s2 hp) (fun _ => .ite (fun _ => .ok id hp) (fun _ => .ite (fun _ => .ok id hp) (fun _ => loop_ki h g p.2 s2 hp))))
theorem stat_ki {g : Nat} {ex : List Int → MEx → PSt → Got Int} {st : MSt → Frm → PSt → Got (Int × Frm)} {lo : Int} {x : MSt} {f : Frm} (hf : FI f) (he : ∀ k, k ∈ x.exprs → ∀ s, KI In64 s (ex f.loc k s)) (hb : ∀ y, y ∈ x.body → ∀ f s, FI f → SKI s (st y f s)) (hl : ∀ y, y ∈ x.els → ∀ f s, FI f → SKI s (st y f s)) (s : PSt) : SKI s (statF E g ex st x f s) := by
  refine step_ki.bind fun _ s _ => ?_
  unfold statB
  have hk := fun i s => kid_ki he i s
  refine .ite (fun _ => ?_) fun _ => .ite (fun _ => ?_) fun _ => .ite (fun _ => ?_) fun _ => .ite (fun _ => ?_) fun _ => .ite (fun _ => ?_) fun _ => .ite (fun _ => loop_ki (fun f s hf => stm_ki _ hb f s hf) g f s hf) fun _ =>
    .ite (fun _ => .ok id hf) fun _ => .ite (fun _ => .ok id hf) fun _ => .ite (fun _ => .ite (fun _ => ?_) (fun _ => .ok id hf)) fun _ => .ite (fun _ => .stop) (fun _ => .ok id hf)
  · exact (hk _ s).bind fun a s ha => .ok id ⟨set_in hf.1 ha, hf.2⟩
  · exact (hk _ s).bind fun a s _ => (hk _ s).bind fun v s hv => at_ki.bind fun k s _ => .ok (fun hm => ⟨set_in hm.1 hv, hm.2⟩) hf
  · exact (hk _ s).bind fun a s _ => .ok id hf
  · exact (hk _ s).bind fun a s _ => .ok write_mi hf
  · exact (hk _ s).bind fun a s _ => .ite (fun _ => stm_ki _ hb f s hf) (fun _ => stm_ki _ hl f s hf)
  · exact (hk _ s).bind fun a s ha => .ok id ⟨hf.1, ha⟩
theorem enter_ki {st : MSt → Frm → PSt → Got (Int × Frm)} (hE : EIn E) (h : ∀ lo x f s, StW lo x → FI f → SKI s (st x f s)) (n : Int) (l : List Int) (s : PSt) (hl : LI l) : KI In64 s (enterT E st n l s) := by
  unfold enterT
  refine .ite (fun _ => .stop) fun _ => ?_
  split
  · exact .stop
  rename_i f hf
  refine .ite (fun _ => .stop) fun _ => .ite (fun _ => .stop) fun _ => ?_
  refine KI.same (s2 := { s with opened := s.opened + 1 }) id (KI.bind (stm_ki (st := st) f.body (fun x hx f' s hf' => h _ x f' s ((hE.fns f (List.mem_of_getElem? hf)).body x hx) hf') _ _ ⟨fun x hx => ?_, in64_0⟩) fun p s hp => .ok id hp.2)
  rcases List.mem_append.1 hx with hx | hx
  · exact hl x hx
  · rw [(List.mem_replicate.1 hx).2]
    exact in64_0
theorem ev_ki (hE : EIn E) : ∀ g : Nat, (∀ loc lo e s, LI loc → ExW lo e → KI In64 s (exS E g loc e s)) ∧ (∀ lo x f s, StW lo x → FI f → SKI s (stS E g x f s))
  | 0 => ⟨fun _ _ _ _ _ _ => .stop, fun _ _ _ _ _ _ => .stop⟩
  | g + 1 => ⟨fun loc lo e s hl hW => expr_ki hE hW hl (enter_ki hE (ev_ki hE g).2) (fun k hk s => (ev_ki hE g).1 loc lo k s hl (hW.kid k hk)) s,
      fun lo x f s hW hf => stat_ki (lo := lo) hf (fun k hk s => (ev_ki hE g).1 f.loc lo k s hf.1 (hW.ex k hk)) (fun y hy f s hf => (ev_ki hE g).2 lo y f s (hW.bd y hy) hf) (fun y hy f s hf => (ev_ki hE g).2 lo y f s (hW.el y hy) hf) s⟩
theorem call_ki (hE : EIn E) (g : Nat) (n : Int) (l : List Int) (s : PSt) (hl : LI l) : KI In64 s (callT E g n l s) := enter_ki hE (ev_ki hE g).2 n l s hl
end
def Zok (E : Env0) (z : ZSt) (b : Int) (L : List Int) : Prop := z.ov = true ∨ (E.fuel - z.s.steps < b ∧ MI z.s ∧ (0 ≤ z.s.opened ∧ z.s.opened ≤ 1200) ∧ LI L)
section
variable {α : Type} {E : Env0} {z z' : ZSt} {b : Int} {L L' : List Int} {A : PSt → Got α} {x : α} {p : α → Prop}
theorem Zok.weak (h : Zok E z b L) {b' : Int} (hb : b ≤ b') (hL : ∀ x, x ∈ L' → x ∈ L ∨ In64 x) : Zok E z b' L' := h.imp id fun ⟨h1, h2, h3, h4⟩ => ⟨by omega, h2, h3, fun x hx => (hL x hx).elim (h4 x) id⟩
theorem Zok.call (h : Zok E z b L) (hk : KeepG z.s (A z.s)) (hi : LI L → KI p z.s (A z.s)) (he : Eqv (z.go A) (z'.go (Got.ok x))) (hL : LI L → p x → LI L') : Zok E z' b L' := by
  cases hz : z'.ov with
  | true => exact .inl hz
  | false =>
    obtain ⟨h1, h2⟩ := he.got hz
    rcases h with h | ⟨h3, h4, h5, h6⟩
    · rw [h] at h1; cases h1
    · obtain ⟨h7, h8⟩ := hk _ _ h2
      obtain ⟨h9, h10⟩ := hi h6 h4 _ _ h2
      exact .inr ⟨by omega, h9, by rw [h8]; exact h5, hL h6 h10⟩
theorem Zok.in_ (h : Zok E z b L) (hz : z.ov = false) {x : Int} (hx : x ∈ L) : In64 x := by
  rcases h with h | h
  · rw [h] at hz; cases hz
  · exact h.2.2.2 x hx
theorem Zok.run (h : Zok E z b L) (hz : z.ov = false) : E.fuel - z.s.steps < b ∧ MI z.s ∧ (0 ≤ z.s.opened ∧ z.s.opened ≤ 1200) ∧ LI L := by
  rcases h with h | h
  · rw [h] at hz; cases hz
  · exact h
end
section
variable {E : EnvT} {z z' : ZSt} {b : Int} {loc L : List Int} {g : Nat}
theorem Zok.ex (hE : EIn E) (h : Zok E.toEnv0 z b L) {lo : Int} {e : MEx} {x : Int} (hW : ExW lo e) (hsub : ∀ x, x ∈ loc → x ∈ L) (he : Eqv (z.go (exS E g loc e)) (z'.go (Got.ok x))) : Zok E.toEnv0 z' b (L ++ [x]) :=
  h.call ((ev_stay E g).1 loc e z.s) (fun hL => (ev_ki hE g).1 loc lo e z.s (fun y hy => hL y (hsub y hy)) hW) he (fun hL hx y hy => by
    rcases List.mem_append.1 hy with hy | hy
    · exact hL y hy
    · rw [List.mem_singleton.1 hy]; exact hx)
theorem Zok.st (hE : EIn E) {f f' : Frm} (h : Zok E.toEnv0 z b f.loc) (hf : f.back = 0) {lo how : Int} {x : MSt} (hW : StW lo x) (he : Eqv (z.go (stS E g x f)) (z'.go (Got.ok (how, f')))) : Zok E.toEnv0 z' b f'.loc :=
  h.call ((ev_stay E g).2 x f z.s) (fun hL => (ev_ki hE g).2 lo x f z.s hW ⟨hL, by rw [hf]; exact in64_0⟩) he (fun _ hx => hx.1)
theorem Zok.sts (hE : EIn E) {f f' : Frm} (h : Zok E.toEnv0 z b f.loc) (hf : f.back = 0) {lo how : Int} {l : List MSt} (hW : ∀ x, x ∈ l → StW lo x) (he : Eqv (z.go (stmS (stS E g) l f)) (z'.go (Got.ok (how, f')))) : Zok E.toEnv0 z' b f'.loc :=
  h.call (stm_stay (ev_stay E g).2 l f z.s) (fun hL => stm_ki l (fun x hx f s hf => (ev_ki hE g).2 lo x f s (hW x hx) hf) f z.s ⟨hL, by rw [hf]; exact in64_0⟩) he (fun _ hx => hx.1)
theorem Zok.step (h : Zok E.toEnv0 z (b + 1) L) (hz : z'.ov = false) (he : Eqv (z.go (stepS E.toEnv0)) (z'.go (Got.ok ()))) : Zok E.toEnv0 z' b L := by
  obtain ⟨h1, h2⟩ := he.got hz
  obtain ⟨h3, h4, h5, h6⟩ := h.run h1
  have h7 := stepT_steps h2
  unfold stepS at h2
  split at h2
  · cases h2
  · injection h2 with _ h2
    refine .inr ⟨by omega, ?_, by rw [h7.2]; exact h5, h6⟩
    rw [← h2]
    exact h4
end
end Go.Mor
namespace Go.Mor
open Go.RowKit
def NoK {α : Type} (key : α → ByteArray) (l : List α) (nm : ByteArray) (j : Nat) : Prop := ∀ i x, i < j → l[i]? = some x → key x ≠ nm
section
variable {α : Type} {key : α → ByteArray} {l : List α} {nm : ByteArray} {j : Nat} {x : α}
theorem NoK.zero : NoK key l nm 0 := fun i _ hi => absurd hi (Nat.not_lt_zero i)
theorem NoK.next (h : NoK key l nm j) (hx : l[j]? = some x) (hc : ¬ (key x).toList = nm.toList) : NoK key l nm (j + 1) := fun i y hi hy => by
  by_cases e : i = j
  · subst e
    rw [hx] at hy
    injection hy with hy
    subst hy
    exact fun h => hc (by rw [h])
  · exact h i y (by omega) hy
end
theorem lkp_first {nm : ByteArray} {v : Int} : ∀ (l : List (ByteArray × Int)) (j : Nat), l[j]? = some (nm, v) → NoK (·.1) l nm j → lkp l nm = some v
  | [], j, h, _ => by simp at h
  | (k, u) :: r, 0, h, _ => by
    simp only [List.getElem?_cons_zero, Option.some.injEq, Prod.mk.injEq] at h
    obtain ⟨rfl, rfl⟩ := h
    unfold lkp
    rw [BEq.rfl]
  | (k, u) :: r, j + 1, h, hn => by
    have h0 := hn 0 (k, u) (by omega) rfl
    unfold lkp
    rw [beq_eq_false_iff_ne.2 (fun e => h0 e.symm)]
    exact lkp_first r j (by simpa using h) (fun i x hi hx => hn (i + 1) x (by omega) (by simpa using hx))
theorem lkp_no {nm : ByteArray} {l : List (ByteArray × Int)} (h : NoK (·.1) l nm l.length) : lkp l nm = none := lkp_none fun hm => by
  obtain ⟨p, hp, he⟩ := List.mem_map.1 hm
  obtain ⟨i, hi⟩ := List.mem_iff_getElem?.1 hp
  exact h i p (List.getElem?_eq_some_iff.1 hi).1 hi he
section
variable {cs : List TFn} {ds : List FDat} {j : Nat} {f : TFn} {d : FDat} {nm : ByteArray}
theorem nmsTo_get : (nmsTo cs cs.length)[j]? = (cs[j]?).map fun f => (f.nm, ((j + 1 : Nat) : Int)) := by
  unfold nmsTo
  rw [List.take_length, List.getElem?_map, List.getElem?_zipIdx]
  cases cs[j]? <;> simp
theorem dataTo_get : (dataTo ds ds.length)[j]? = (ds[j]?).map fun d => (d.nm, (nextTo ds j : Int)) := by
  unfold dataTo
  rw [List.take_length, List.getElem?_map, List.getElem?_zipIdx]
  cases ds[j]? <;> simp
theorem nms_no (h : NoK TFn.nm cs nm j) : NoK (·.1) (nmsTo cs cs.length) nm j := fun i p hi hp => by
  rw [nmsTo_get] at hp
  cases hc : cs[i]? with
  | none => rw [hc] at hp; cases hp
  | some f =>
    rw [hc] at hp
    simp only [Option.map_some, Option.some.injEq] at hp
    rw [← hp]
    exact h i f hi hc
theorem dat_no (h : NoK FDat.nm ds nm j) : NoK (·.1) (dataTo ds ds.length) nm j := fun i p hi hp => by
  rw [dataTo_get] at hp
  cases hc : ds[i]? with
  | none => rw [hc] at hp; cases hp
  | some f =>
    rw [hc] at hp
    simp only [Option.map_some, Option.some.injEq] at hp
    rw [← hp]
    exact h i f hi hc
theorem nms_at (hf : cs[j]? = some f) (he : f.nm.toList = nm.toList) (h : NoK TFn.nm cs nm j) : lkp (nmsTo cs cs.length) nm = some ((j + 1 : Nat) : Int) := by
  exact lkp_first _ j (by rw [nmsTo_get, hf]; simp only [Option.map_some, ba_same.1 he]) (nms_no h)
theorem dat_at (hf : ds[j]? = some d) (he : d.nm.toList = nm.toList) (h : NoK FDat.nm ds nm j) : lkp (dataTo ds ds.length) nm = some (nextTo ds j : Int) :=
  lkp_first _ j (by rw [dataTo_get, hf]; simp only [Option.map_some, ba_same.1 he]) (dat_no h)
theorem nms_none (h : NoK TFn.nm cs nm cs.length) : lkp (nmsTo cs cs.length) nm = none := by
  refine lkp_no ?_
  have : (nmsTo cs cs.length).length = cs.length := by unfold nmsTo; simp
  rw [this]
  exact nms_no h
theorem dat_none (h : NoK FDat.nm ds nm ds.length) : lkp (dataTo ds ds.length) nm = none := by
  refine lkp_no ?_
  have : (dataTo ds ds.length).length = ds.length := by unfold dataTo; simp
  rw [this]
  exact dat_no h
end
theorem wrap_id {x : Int} (h : In64 x) : IntKind.i64.wrap x = x := IntWalk.i64_in x h
theorem wrap_big {x : Int} (h : 9223372036854775807 < x) (h2 : x ≤ 9223372041149743103) : IntKind.i64.wrap x = x - 18446744073709551616 := by
  have e : x % 18446744073709551616 = x := Int.emod_eq_of_lt (by omega) (by omega)
  unfold IntKind.wrap
  simp only [IntKind.signed, IntKind.bits, Bool.true_and]
  show (if decide (x % 18446744073709551616 ≥ 9223372036854775808) = true then x % 18446744073709551616 - 18446744073709551616 else x % 18446744073709551616) = _
  rw [e, if_pos (by rw [decide_eq_true_eq]; omega)]
theorem cell_yes {a n : Int} {s : PSt} (h1 : ¬ a < -2147483647) (h2 : ¬ a > s.next) (h3 : ¬ a + n < 1) (h4 : ¬ a + n ≥ s.next) (hn : s.next ≤ 262144) : atS (IntKind.i64.wrap (a + n)) s = .ok (a + n).toNat s := by
  rw [wrap_id ⟨by omega, by omega⟩]
  unfold atS
  rw [if_neg (by omega)]
theorem cell_no {a n : Int} {s : PSt} (ha : In64 a) (h0 : 0 ≤ n) (h1 : n ≤ 2147483647) (h : a < -2147483647 ∨ a > s.next ∨ a + n < 1 ∨ a + n ≥ s.next) (hs : 1 ≤ s.next) (hn : s.next ≤ 262144) : atS (IntKind.i64.wrap (a + n)) s = .stop 5 0 s := by
  have ha1 := ha.1
  have ha2 := ha.2
  unfold atS
  by_cases hb : a + n ≤ 9223372036854775807
  · rw [wrap_id ⟨by omega, hb⟩, if_pos (by omega)]
  · rw [wrap_big (by omega) (by omega), if_pos (by omega)]
def plcs (ds : List FDat) (j : Nat) : List Int := (List.range j).map fun i => (nextTo ds i : Int)
theorem plcs_len {ds : List FDat} {j : Nat} : (plcs ds j).length = j := by unfold plcs; simp
theorem plcs_get {ds : List FDat} {j i : Nat} (h : i < j) : (plcs ds j)[i]? = some (nextTo ds i : Int) := by
  unfold plcs
  rw [List.getElem?_map, List.getElem?_range h]
  rfl
theorem plcs_snoc {ds : List FDat} {j : Nat} : plcs ds j ++ [(nextTo ds j : Int)] = plcs ds (j + 1) := by
  unfold plcs
  rw [List.range_succ, List.map_append]
  rfl
theorem gbind_eq {α β : Type} {g : Got α} {F F' : α → PSt → Got β} (h : ∀ x s, F x s = F' x s) : g.bind F = g.bind F' := by
  cases g with
  | ok a s => exact h a s
  | stop k c s => rfl
def plainB (E : EnvT) (call : Int → List Int → PSt → Got Int) (loc : List Int) (e : MEx) (l : List Int) (s : PSt) : Got Int :=
  if e.op = 1 then .ok e.n s
  else if e.op = 2 then .ok (loc.getD e.n.toNat 0) s
  else if e.op = 3 then if (binS e.n (a0 l) (a1 l)).2 = 0 then .ok (binS e.n (a0 l) (a1 l)).1 s else .stop 2 (binS e.n (a0 l) (a1 l)).2 s
  else if e.op = 4 then .ok (unS e.n (a0 l)).1 s
  else if e.op = 5 then (atS (IntKind.i64.wrap (a0 l + e.n)) s).bind fun k s => .ok (s.mem.getD k 0) s
  else if e.op = 6 then (lkS E.names e.nm s).bind fun n s => call n l s
  else if e.op = 7 then call (a0 l) l.tail s
  else if e.op = 8 then lkS E.data e.nm s
  else if e.op = 9 then lkS E.names e.nm s
  else if e.op = 10 then allocS E.toEnv0 (a0 l) s
  else readS E.toEnv0 s
def sumS (op a b : Int) (s : PSt) : Got Int := if (binS op a b).2 = 0 then .ok (binS op a b).1 s else .stop 2 (binS op a b).2 s
def namS (E : EnvT) (e : MEx) (s : PSt) : Got Int := if e.op = 8 then lkS E.data e.nm s else lkS E.names e.nm s
theorem call_lk {E : EnvT} {g : Nat} {l : List Int} {nm : ByteArray} {s : PSt} : (lkS E.names nm s).bind (fun n s => callT E g n l s) = callT E g ((lkp E.names nm).getD 0) l s := by
  unfold lkS
  cases lkp E.names nm with
  | some n => rfl
  | none =>
    show Got.stop 5 0 s = enterT E (stS E g) 0 l s
    rw [enterT_rng (.inl (by decide))]
section
variable {op a b : Int}
theorem bq1 (h : op = 4 ∨ op = 5) (hb : b = 0) : binS op a b = (0, 3) := by rw [bin_45 h, quo_1 hb]
theorem bq2 (h : op = 4) (hb : b = -1) : binS op a b = (IntKind.i64.wrap (0 - a), 0) := by rw [bin_45 (.inl h), quo_2 hb h]
theorem bq3 (h : op = 5) (hb : b = -1) : binS op a b = (0, 0) := by rw [bin_45 (.inr h), quo_3 hb (by omega)]
theorem bq4 (h : op = 4) (h1 : b ≠ 0) (h2 : b ≠ -1) : binS op a b = (IntKind.i64.wrap (a.tdiv b), 0) := by rw [bin_45 (.inl h), quo_4 h1 h2 h]
theorem bq5 (h : op = 5) (h1 : b ≠ 0) (h2 : b ≠ -1) : binS op a b = (a.tmod b, 0) := by rw [bin_45 (.inr h), quo_5 h1 h2 (by omega)]
end
theorem shN_and (b : Int) : IntKind.u64.wrap (bAnd b 63) = shN b := by
  have h63 : (BitVec.ofInt 64 63).toNat = 63 := by decide
  have hw : BitVec.ofInt 64 (IntKind.u64.wrap b) = BitVec.ofInt 64 b := by
    apply BitVec.eq_of_toNat_eq
    have e : IntKind.u64.wrap b = b % 18446744073709551616 := by
      unfold IntKind.wrap
      simp [IntKind.signed, IntKind.bits]
    rw [e]
    simp only [BitVec.toNat_ofInt]
    congr 1
    exact Int.emod_emod_of_dvd b (by decide)
  unfold shN bAnd
  rw [hw]
  generalize hx : (BitVec.ofInt 64 b &&& BitVec.ofInt 64 63).toNat = x
  have hle : x ≤ 63 := by
    rw [← hx, BitVec.toNat_and, h63]
    exact Nat.and_le_right
  rw [wrap_id ⟨by omega, by omega⟩]
theorem lk_nil {l : List (ByteArray × Int)} {nm : ByteArray} (h : (lkp l nm).getD 0 = 0) (hn : ∀ n, lkp l nm = some n → 1 ≤ n) : lkp l nm = none := by
  cases hq : lkp l nm with
  | none => rfl
  | some n =>
    have := hn n hq
    rw [hq] at h
    have h2 : n = 0 := h
    omega
theorem lk_got {l : List (ByteArray × Int)} {nm : ByteArray} {s : PSt} (h : ¬ (lkp l nm).getD 0 = 0) : lkS l nm s = .ok ((lkp l nm).getD 0) s := by
  unfold lkS
  cases hq : lkp l nm with
  | none => rw [hq] at h; exact absurd rfl h
  | some n => rfl
theorem a0_mem {l : List Int} (h : 0 < l.length) : a0 l ∈ l := by
  cases l with
  | nil => cases h
  | cons x r => exact List.mem_cons_self ..
theorem kids_0 {ev : MEx → PSt → Got Int} {l : List MEx} {s : PSt} (h : l.length = 0) : kidsS ev l s = .ok [] s := by rw [List.eq_nil_of_length_eq_zero h]; rfl
theorem kids_1 {β : Type} {ev : MEx → PSt → Got Int} {l : List MEx} {s : PSt} {F : List Int → PSt → Got β} (h : l.length = 1) : (kidsS ev l s).bind F = (kidS ev l 0 s).bind fun v s => F [v] s := by
  obtain ⟨k, rfl⟩ := List.length_eq_one_iff.1 h
  show ((ev k s).bind fun v s => (Got.ok [] s).bind fun l s => .ok (v :: l) s).bind F = (ev k s).bind _
  cases ev k s <;> rfl
theorem kids_2 {β : Type} {ev : MEx → PSt → Got Int} {l : List MEx} {s : PSt} {F : List Int → PSt → Got β} (h : l.length = 2) : (kidsS ev l s).bind F = (kidS ev l 0 s).bind fun v s => (kidS ev l 1 s).bind fun u s => F [v, u] s := by
  obtain ⟨k, q, rfl⟩ : ∃ k q, l = [k, q] := by
    match l, h with
    | [k, q], _ => exact ⟨k, q, rfl⟩
  show ((ev k s).bind fun v s => ((ev q s).bind fun u s => (Got.ok [] s).bind fun l s => .ok (u :: l) s).bind fun l s => .ok (v :: l) s).bind F = (ev k s).bind fun v s => (ev q s).bind _
  cases ev k s with
  | stop _ _ _ => rfl
  | ok v s1 =>
    show ((((ev q s1).bind fun u s => (Got.ok [] s).bind fun l s => .ok (u :: l) s).bind fun l s => .ok (v :: l) s)).bind F = (ev q s1).bind _
    cases ev q s1 <;> rfl
section
variable {E : EnvT} {call : Int → List Int → PSt → Got Int} {ev : MEx → PSt → Got Int} {loc : List Int} {e : MEx} {s : PSt} {lo : Int} {l : List Int}
theorem pl_1 (h : e.op = 1) : plainB E call loc e l s = .ok e.n s := by unfold plainB; rw [h]; rfl
theorem pl_2 (h : e.op = 2) : plainB E call loc e l s = .ok (loc.getD e.n.toNat 0) s := by unfold plainB; rw [h]; rfl
theorem pl_3 (h : e.op = 3) : plainB E call loc e l s = if (binS e.n (a0 l) (a1 l)).2 = 0 then .ok (binS e.n (a0 l) (a1 l)).1 s else .stop 2 (binS e.n (a0 l) (a1 l)).2 s := by unfold plainB; rw [h]; rfl
theorem pl_4 (h : e.op = 4) : plainB E call loc e l s = .ok (unS e.n (a0 l)).1 s := by unfold plainB; rw [h]; rfl
theorem pl_5 (h : e.op = 5) : plainB E call loc e l s = (atS (IntKind.i64.wrap (a0 l + e.n)) s).bind fun k s => .ok (s.mem.getD k 0) s := by unfold plainB; rw [h]; rfl
theorem pl_6 (h : e.op = 6) : plainB E call loc e l s = (lkS E.names e.nm s).bind fun n s => call n l s := by unfold plainB; rw [h]; rfl
theorem pl_7 (h : e.op = 7) : plainB E call loc e l s = call (a0 l) l.tail s := by unfold plainB; rw [h]; rfl
theorem pl_8 (h : e.op = 8) : plainB E call loc e l s = lkS E.data e.nm s := by unfold plainB; rw [h]; rfl
theorem pl_9 (h : e.op = 9) : plainB E call loc e l s = lkS E.names e.nm s := by unfold plainB; rw [h]; rfl
theorem pl_10 (h : e.op = 10) : plainB E call loc e l s = allocS E.toEnv0 (a0 l) s := by unfold plainB; rw [h]; rfl
theorem pl_11 (h : e.op = 11) : plainB E call loc e l s = readS E.toEnv0 s := by unfold plainB; rw [h]; rfl
theorem ex_plain (hq : esQ lo e.op e.n e.nm.size e.kids.length) (h12 : e.op ≠ 12) (h13 : e.op ≠ 13) : exprB E call ev loc e s = (kidsS ev e.kids s).bind (plainB E call loc e) := by
  unfold esQ at hq
  rcases hq with h | h | h | h | h | h | h | h | h | h | h | h | h
  · rw [ex_1 h.1, kids_0 h.2.1]; exact (pl_1 (l := []) h.1).symm
  · rw [ex_2 h.1, kids_0 h.2.1]; exact (pl_2 (l := []) h.1).symm
  · rw [ex_3 h.1, kids_2 h.2.1]; exact gbind_eq fun v s => gbind_eq fun u s => (pl_3 (l := [v, u]) h.1).symm
  · rw [ex_4 h.1, kids_1 h.2.1]; exact gbind_eq fun v s => (pl_4 (l := [v]) h.1).symm
  · rw [ex_5 h.1, kids_1 h.2.1]; exact gbind_eq fun v s => (pl_5 (l := [v]) h.1).symm
  · rw [ex_6 h.1]; exact gbind_eq fun v s => (pl_6 (l := v) h.1).symm
  · rw [ex_7 h.1]; exact gbind_eq fun v s => (pl_7 (l := v) h.1).symm
  · rw [ex_8 h.1, kids_0 h.2.1]; exact (pl_8 (l := []) h.1).symm
  · rw [ex_9 h.1, kids_0 h.2.1]; exact (pl_9 (l := []) h.1).symm
  · rw [ex_10 h.1, kids_1 h.2.1]; exact gbind_eq fun v s => (pl_10 (l := [v]) h.1).symm
  · rw [ex_11 h.1, kids_0 h.2.1]; exact (pl_11 (l := []) h.1).symm
  · exact absurd h.1 h12
  · exact absurd h.1 h13
end
def statP (E : EnvT) (g : Nat) (st : MSt → Frm → PSt → Got (Int × Frm)) (x : MSt) (f : Frm) (l : List Int) (s : PSt) : Got (Int × Frm) :=
  if x.op = 1 then .ok (0, { f with loc := f.loc.set x.n.toNat (a0 l) }) s
  else if x.op = 2 then (atS (IntKind.i64.wrap (a0 l + x.n)) s).bind fun k s => .ok (0, f) { s with mem := s.mem.set k (a1 l) }
  else if x.op = 3 then .ok (0, f) s
  else if x.op = 4 then .ok (0, f) (writeS (a0 l) s)
  else if x.op = 5 then if a0 l ≠ 0 then stmS st x.body f s else stmS st x.els f s
  else if x.op = 6 then loopF E.toEnv0 (stmS st x.body) g f s
  else if x.op = 7 then .ok (1, { f with deep := x.n }) s
  else if x.op = 8 then .ok (2, { f with deep := x.n }) s
  else if x.op = 9 then .ok (3, { f with back := a0 l }) s
  else .stop 2 x.n s
section
variable {E : EnvT} {g : Nat} {ex : List Int → MEx → PSt → Got Int} {st : MSt → Frm → PSt → Got (Int × Frm)} {x : MSt} {f : Frm} {s : PSt} {lo lp : Int} {l : List Int}
theorem sp_1 (h : x.op = 1) : statP E g st x f l s = .ok (0, { f with loc := f.loc.set x.n.toNat (a0 l) }) s := by unfold statP; rw [h]; rfl
theorem sp_2 (h : x.op = 2) : statP E g st x f l s = (atS (IntKind.i64.wrap (a0 l + x.n)) s).bind fun k s => .ok (0, f) { s with mem := s.mem.set k (a1 l) } := by unfold statP; rw [h]; rfl
theorem sp_3 (h : x.op = 3) : statP E g st x f l s = .ok (0, f) s := by unfold statP; rw [h]; rfl
theorem sp_4 (h : x.op = 4) : statP E g st x f l s = .ok (0, f) (writeS (a0 l) s) := by unfold statP; rw [h]; rfl
theorem sp_5 (h : x.op = 5) : statP E g st x f l s = if a0 l ≠ 0 then stmS st x.body f s else stmS st x.els f s := by unfold statP; rw [h]; rfl
theorem sp_6 (h : x.op = 6) : statP E g st x f l s = loopF E.toEnv0 (stmS st x.body) g f s := by unfold statP; rw [h]; rfl
theorem sp_7 (h : x.op = 7) : statP E g st x f l s = .ok (1, { f with deep := x.n }) s := by unfold statP; rw [h]; rfl
theorem sp_8 (h : x.op = 8) : statP E g st x f l s = .ok (2, { f with deep := x.n }) s := by unfold statP; rw [h]; rfl
theorem sp_9 (h : x.op = 9) : statP E g st x f l s = .ok (3, { f with back := a0 l }) s := by unfold statP; rw [h]; rfl
theorem sp_10 (h : x.op = 10) : statP E g st x f l s = .stop 2 x.n s := by unfold statP; rw [h]; rfl
theorem st_plain (hq : sfQ lo lp x.op x.n x.exprs.length x.body.length x.els.length) (hf : f.back = 0) : statB E g ex st x f s = (kidsS (ex f.loc) x.exprs s).bind (statP E g st x f) := by
  unfold sfQ at hq
  rcases hq with h | h | h | h | h | h | h | h | h | h
  · rw [sm_1 h.1, kids_1 h.2.1]; exact gbind_eq fun v s => (sp_1 (l := [v]) h.1).symm
  · rw [sm_2 h.1, kids_2 h.2.1]; exact gbind_eq fun v s => gbind_eq fun u s => (sp_2 (l := [v, u]) h.1).symm
  · rw [sm_3 h.1, kids_1 h.2.1]; exact gbind_eq fun v s => (sp_3 (l := [v]) h.1).symm
  · rw [sm_4 h.1, kids_1 h.2.1]; exact gbind_eq fun v s => (sp_4 (l := [v]) h.1).symm
  · rw [sm_5 h.1, kids_1 h.2.1]; exact gbind_eq fun v s => (sp_5 (l := [v]) h.1).symm
  · rw [sm_6 h.1, kids_0 h.2.1]; exact (sp_6 (l := []) h.1).symm
  · rw [sm_7 h.1, kids_0 h.2.1]; exact (sp_7 (l := []) h.1).symm
  · rw [sm_8 h.1, kids_0 h.2.1]; exact (sp_8 (l := []) h.1).symm
  · rw [sm_9 h.1]
    rcases h.2.1 with h0 | h0
    · rw [if_neg (by omega), kids_0 h0]
      refine Eq.trans ?_ (sp_9 (l := []) h.1).symm
      show Got.ok (3, f) s = .ok (3, { f with back := 0 }) s
      rw [← hf]
    · rw [if_pos (by omega), kids_1 h0]; exact gbind_eq fun v s => (sp_9 (l := [v]) h.1).symm
  · rw [sm_10 h.1, kids_0 h.2.1]; exact (sp_10 (l := []) h.1).symm
end
section
variable {β : Type} {ev : MEx → PSt → Got Int} {l : List MEx} {z z' : ZSt} {G : Got β} {F : List Int → PSt → Got β} {vs : List Int} {j : Nat} {k : MEx} {x : Int}
theorem kz_start (hr : Eqv G (z.go fun s => (kidsS ev l s).bind F)) : Eqv G (z.go fun s => (kidsS ev (l.drop 0) s).bind fun r s => F ([] ++ r) s) := hr
theorem kz_next (hr : Eqv G (z.go fun s => (kidsS ev (l.drop j) s).bind fun r s => F (vs ++ r) s)) (hk : l[j]? = some k) (h : Eqv (z.go (ev k)) (z'.go (Got.ok x))) : Eqv G (z'.go fun s => (kidsS ev (l.drop (j + 1)) s).bind fun r s => F ((vs ++ [x]) ++ r) s) := by
  refine Eqv.mk_ (K := fun s => (kidsS ev (l.drop (j + 1)) s).bind fun r s => F (vs ++ x :: r) s) (fun s => by simp) (Eqv.step (A := ev k) (F := fun x s => (kidsS ev (l.drop (j + 1)) s).bind fun r s => F (vs ++ x :: r) s) (Eqv.mk_ (fun s => ?_) hr) h)
  rw [kids_at hk]
  cases ev k s with
  | stop _ _ _ => rfl
  | ok v s1 =>
    show ((kidsS ev (l.drop (j + 1)) s1).bind fun l s => Got.ok (v :: l) s).bind _ = (kidsS ev (l.drop (j + 1)) s1).bind _
    cases kidsS ev (l.drop (j + 1)) s1 <;> rfl
theorem kz_end (hr : Eqv G (z.go fun s => (kidsS ev (l.drop j) s).bind fun r s => F (vs ++ r) s)) (h : l.length ≤ j) : Eqv G (z.go (F vs)) := Eqv.mk_ (fun s => by
  rw [List.drop_eq_nil_of_le h]
  show F (vs ++ []) s = F vs s
  rw [List.append_nil]) hr
end
end Go.Mor
namespace Go.Mor
open Go.RowKit
structure RX where
  E : EnvT
  ds : List FDat
  r : Nat
  fA : Option Addr
  fc : Nat
  dA : Option Addr
  dc : Nat
  pA : Option Addr
  pc : Nat
  mG : Nat
  iA : Option Addr
  ic : Nat
abbrev xcells (X : RX) (z : ZSt) (oA : Option Addr) (oc : Nat) : List Value :=
  [.slice X.dA X.ds.length X.dc, .slice X.pA X.ds.length X.pc, .slice (some ⟨X.mG, 0, none⟩) X.E.memN X.E.memN, .int .i64 z.s.next, .slice X.iA X.E.inp.length X.ic, .int .i64 (z.s.pos : Int),
    .int .i64 z.k, .int .i64 z.c, .slice oA z.s.out.length oc, .int .i64 z.s.steps, .bool z.ov, .int .i64 X.E.fuel, .int .i64 z.s.opened, .slice X.fA X.E.tfs.length X.fc, .int .i64 z.N, .int .i64 z.V]
abbrev xb_ (X : RX) (z : ZSt) (oA : Option Addr) (oc : Nat) : Res := .blk X.r 75 (xcells X z oA oc)
abbrev xm_ (X : RX) (z : ZSt) : Res := .row 2 1 (some ⟨X.mG, 0, none⟩) X.E.memN X.E.memN (ints z.s.mem)
abbrev xo_ (z : ZSt) (oA : Option Addr) (oc : Nat) : Res := .row 5 1 oA z.s.out.length oc (u8s z.s.out)
abbrev rwnL (X : RX) (z : ZSt) (oA : Option Addr) (oc : Nat) : List Res :=
  [.blk X.r 75 (xcells X z oA oc), .row 2 1 (some ⟨X.mG, 0, none⟩) X.E.memN X.E.memN (ints z.s.mem), .row 5 1 oA z.s.out.length oc (u8s z.s.out)]
def RX.T (X : RX) : List Res := X.E.tfs.flatMap TFn.parts
def RX.ro (X : RX) : Res := .all (.rds X.fA 5 (X.E.tfs.map TFn.cells) :: .rds X.dA 4 (X.ds.map FDat.cells) :: .rd X.pA (ints (plcs X.ds X.ds.length)) :: .rd X.iA (u8s X.E.inp) :: X.T)
section
variable {S : Nat → Prop} {w : World} {X : RX}
theorem RO.xfns (h : RO S w X.ro) : RO S w (.rds X.fA 5 (X.E.tfs.map TFn.cells)) := h.sub (List.mem_cons_self ..)
theorem RO.xdat (h : RO S w X.ro) : RO S w (.rds X.dA 4 (X.ds.map FDat.cells)) := h.sub (.tail _ (List.mem_cons_self ..))
theorem RO.xpl (h : RO S w X.ro) : RO S w (.rd X.pA (ints (plcs X.ds X.ds.length))) := h.sub (.tail _ (.tail _ (List.mem_cons_self ..)))
theorem RO.xin (h : RO S w X.ro) : RO S w (.rd X.iA (u8s X.E.inp)) := h.sub (.tail _ (.tail _ (.tail _ (List.mem_cons_self ..))))
theorem RO.xtree (h : RO S w X.ro) {r : Res} (hr : r ∈ X.T) : RO S w r := h.sub (.tail _ (.tail _ (.tail _ (.tail _ hr))))
end
structure RX.WF (X : RX) : Prop where
  fns : ∀ f, f ∈ X.E.tfs → f.WF ∧ fnV f = true
  nfns : X.E.tfs.length ≤ 1000000
  nds : X.ds.length ≤ 1000000
  next : nextTo X.ds X.ds.length ≤ 262144
  names : X.E.names = nmsTo X.E.tfs X.E.tfs.length
  data : X.E.data = dataTo X.ds X.ds.length
  mem : X.E.memN ≤ 262144
  fuel : 0 ≤ X.E.fuel ∧ X.E.fuel ≤ 4194304
  inp : X.E.inp.length ≤ 4096
  ic : X.E.inp.length ≤ X.ic
  bytes : ∀ b, b ∈ X.E.inp → 0 ≤ b ∧ b ≤ 255
structure ZGood (X : RX) (z : ZSt) : Prop where
  mem : z.s.mem.length = X.E.memN
  n1 : 1 ≤ z.s.next
  n2 : z.s.next ≤ X.E.memN
  pos : z.s.pos ≤ X.E.inp.length
  out : z.s.out.length ≤ 4096
  s1 : 0 ≤ z.s.steps
  s2 : z.s.steps ≤ X.E.fuel
section
variable {X : RX} {z : ZSt}
theorem nextTo_of {ds : List FDat} {nm : ByteArray} {n : Int} (h : lkp (dataTo ds ds.length) nm = some n) : ∃ j, j < ds.length ∧ n = (nextTo ds j : Int) := by
  obtain ⟨i, hi⟩ := List.mem_iff_getElem?.1 (lkp_mem h)
  rw [dataTo_get] at hi
  cases hd : ds[i]? with
  | none => rw [hd] at hi; cases hi
  | some d =>
    rw [hd] at hi
    simp only [Option.map_some, Option.some.injEq, Prod.mk.injEq] at hi
    exact ⟨i, (List.getElem?_eq_some_iff.1 hd).1, hi.2.symm⟩
theorem nms_of {cs : List TFn} {nm : ByteArray} {n : Int} (h : lkp (nmsTo cs cs.length) nm = some n) : 1 ≤ n ∧ n ≤ cs.length := by
  obtain ⟨i, hi⟩ := List.mem_iff_getElem?.1 (lkp_mem h)
  rw [nmsTo_get] at hi
  cases hd : cs[i]? with
  | none => rw [hd] at hi; cases hi
  | some d =>
    rw [hd] at hi
    simp only [Option.map_some, Option.some.injEq, Prod.mk.injEq] at hi
    have := (List.getElem?_eq_some_iff.1 hd).1
    omega
theorem RX.WF.ein (h : X.WF) : EIn X.E where
  names nm n hn := by
    rw [h.names] at hn
    have := nms_of hn
    have := h.nfns
    exact in64_nat (by omega) (by omega)
  data nm n hn := by
    rw [h.data] at hn
    obtain ⟨j, hj, rfl⟩ := nextTo_of hn
    have := nextTo_mono (ds := X.ds) (Nat.le_of_lt hj)
    have := h.next
    exact in64_nat (by omega) (by omega)
  inp b hb := by
    have := h.bytes b hb
    exact in64_nat this.1 (by omega)
  next := h.mem
  fns f hf := (h.fns f hf).1
theorem xbyte_in (hX : X.WF) {p : Nat} : 0 ≤ X.E.inp.getD p 0 ∧ X.E.inp.getD p 0 ≤ 255 := by
  by_cases h : p < X.E.inp.length
  · have : X.E.inp.getD p 0 = X.E.inp[p] := by simp [List.getD, h]
    rw [this]
    exact hX.bytes _ (List.getElem_mem h)
  · have : X.E.inp.getD p 0 = 0 := by simp [List.getD, h]
    rw [this]
    omega
theorem ZGood.fin (h : ZGood X z) {k c : Int} : ZGood X (z.fin k c) := ⟨by rw [fin_s]; exact h.mem, by rw [fin_s]; exact h.n1, by rw [fin_s]; exact h.n2, by rw [fin_s]; exact h.pos, by rw [fin_s]; exact h.out, by rw [fin_s]; exact h.s1, by rw [fin_s]; exact h.s2⟩
theorem ZGood.step (h : ZGood X z) (hn : ¬ z.s.steps = X.E.fuel) : ZGood X { z with s := { z.s with steps := z.s.steps + 1 } } := ⟨h.mem, h.n1, h.n2, h.pos, h.out, by have := h.s1; show 0 ≤ z.s.steps + 1; omega, by have := h.s2; show z.s.steps + 1 ≤ _; omega⟩
theorem ZGood.take (h : ZGood X z) {n : Int} (h0 : 0 ≤ n) (h1 : n ≤ (X.E.memN : Int) - z.s.next) : ZGood X { z with s := { z.s with next := z.s.next + n } } :=
  ⟨h.mem, by have := h.n1; show 1 ≤ z.s.next + n; omega, by show z.s.next + n ≤ _; omega, h.pos, h.out, h.s1, h.s2⟩
theorem ZGood.read (h : ZGood X z) (hp : z.s.pos < X.E.inp.length) : ZGood X { z with s := { z.s with pos := z.s.pos + 1 } } := ⟨h.mem, h.n1, h.n2, hp, h.out, h.s1, h.s2⟩
theorem ZGood.write (h : ZGood X z) (hp : z.s.out.length < 4096) (b : Int) : ZGood X { z with s := { z.s with out := z.s.out ++ [b] } } := ⟨h.mem, h.n1, h.n2, h.pos, by show (z.s.out ++ [b]).length ≤ _; rw [List.length_append]; exact hp, h.s1, h.s2⟩
theorem ZGood.set (h : ZGood X z) (k : Nat) (v : Int) : ZGood X { z with s := { z.s with mem := z.s.mem.set k v } } := ⟨by show (z.s.mem.set k v).length = _; rw [List.length_set]; exact h.mem, h.n1, h.n2, h.pos, h.out, h.s1, h.s2⟩
theorem xin_cell {w : World} {A : Option Addr} {ad : Addr} {l : List Int} {p : Nat} (h : (Res.rd A (u8s l)).holds w) (hA : A = some ad) (hp : p < l.length) : w.cell? (ad.add (((p : Int) + 1 - 1).toNat * 1)) = some (.int .u8 (l.getD p 0)) := by
  have e : ((p : Int) + 1 - 1).toNat = p := by omega
  rw [e]
  have h1 : (u8s l)[p]? = some (.int .u8 (l.getD p 0)) := by
    unfold u8s
    rw [List.getElem?_map, List.getElem?_eq_getElem hp]
    simp [List.getD, hp]
  exact rd_get1 h hA h1
theorem rwn_ov {oA : Option Addr} {oc : Nat} {b : Bool} (h : z.ov = b) : rwnL X z oA oc = [.blk X.r 75 (.slice X.dA X.ds.length X.dc :: .slice X.pA X.ds.length X.pc :: .slice (some ⟨X.mG, 0, none⟩) X.E.memN X.E.memN :: .int .i64 z.s.next :: .slice X.iA X.E.inp.length X.ic :: .int .i64 (z.s.pos : Int) ::
    .int .i64 z.k :: .int .i64 z.c :: .slice oA z.s.out.length oc :: .int .i64 z.s.steps :: .bool b :: .int .i64 X.E.fuel :: .int .i64 z.s.opened :: [.slice X.fA X.E.tfs.length X.fc, .int .i64 z.N, .int .i64 z.V]),
    .row 2 1 (some ⟨X.mG, 0, none⟩) X.E.memN X.E.memN (ints z.s.mem), .row 5 1 oA z.s.out.length oc (u8s z.s.out)] := by
  subst h
  rfl
end
theorem Ret_weak {P : Program} {f : FuncId} {vs : Array Value} {w : World} {Φ Φ' : Value → World → Prop} (h : Calls P f vs w (Ret Φ)) (h1 : ∀ v w', Φ v w' → Φ' v w') : Calls P f vs w (Ret Φ') := h.mono (fun _ _ ⟨v, he, hp⟩ => ⟨v, he, h1 v _ hp⟩)
abbrev xS (X : RX) (z : ZSt) (oA : Option Addr) (oc : Nat) : Nat → Prop := (Res.pk (rwnL X z oA oc)).fp
def XV (X : RX) (S : Nat → Prop) (w : World) (z : ZSt) (A : PSt → Got Int) (v : Value) (w' : World) : Prop :=
  ∃ x z' oA oc, v = .int .i64 x ∧ ZGood X z' ∧ Eqv (z.go A) (z'.go (Got.ok x)) ∧ Mem S w w' (rwnL X z' oA oc)
def XCalls (P : Program) (X : RX) (z : ZSt) (oA : Option Addr) (oc : Nat) (w : World) (fn : FuncId) (args : List Value) (A : PSt → Got Int) : Prop :=
  Calls P fn args.toArray w (Ret (XV X (xS X z oA oc) w z A))
def XExOk (P : Program) (X : RX) (fn : FuncId) (ev : List Int → MEx → PSt → Got Int) (b : Int) : Prop :=
  ∀ (e : MEx) (d : Int) (loc : List Int) (la m : Nat) (z : ZSt) (oA : Option Addr) (oc : Nat) (w : World), ZGood X z → Zok X.E.toEnv0 z b loc → (Res.pk (rwnL X z oA oc)).holds w → RO (xS X z oA oc) w X.ro →
    SubE X.T e → ExW (m : Int) e → exV (m : Int) d e = true → loc.length = m → RO (xS X z oA oc) w (.rd (some ⟨la, 0, none⟩) (ints loc)) →
    XCalls P X z oA oc w fn [pT X.r 0, .agg e.cells.toArray, .slice (some ⟨la, 0, none⟩) m m] (ev loc e)
def XCaOk (P : Program) (X : RX) (fn : FuncId) (call : Int → List Int → PSt → Got Int) (b : Int) : Prop :=
  ∀ (n : Int) (l : List Int) (bA : Option Addr) (bc : Nat) (z : ZSt) (oA : Option Addr) (oc : Nat) (w : World), ZGood X z → Zok X.E.toEnv0 z b l → (Res.pk (rwnL X z oA oc)).holds w → RO (xS X z oA oc) w X.ro →
    RO (xS X z oA oc) w (.rd bA (ints l)) → l.length ≤ 17 → XCalls P X z oA oc w fn [pT X.r 0, .int .i64 n, .slice bA l.length bc] (call n l)
abbrev xZ (X : RX) (z : ZSt) (oA : Option Addr) (oc la m : Nat) (f : Frm) : Nat → Prop := (Res.pk (rwnL X z oA oc ++ [frmR la m f])).fp
structure FQ (how : Int) (f : Frm) (z : ZSt) : Prop where
  r : 0 ≤ how ∧ how ≤ 3
  b : how = 3 → f.back = z.V
  n : how ≠ 3 → f.back = 0
  d : how = 1 ∨ how = 2 → f.deep = z.N
theorem FQ.zero {f : Frm} {z : ZSt} (h : f.back = 0) : FQ 0 f z := ⟨⟨by decide, by decide⟩, (fun h => by cases h), fun _ => h, (fun h => by rcases h with h | h <;> cases h)⟩
theorem FQ.three {f : Frm} {z : ZSt} : FQ 3 { f with back := z.V } z := ⟨⟨by decide, by decide⟩, fun _ => rfl, fun h => absurd rfl h, (fun h => by rcases h with h | h <;> cases h)⟩
theorem ZGood.toO {X : RX} {z : ZSt} (h : ZGood X z) {n : Int} : ZGood X { z with s := { z.s with opened := n } } := ⟨h.mem, h.n1, h.n2, h.pos, h.out, h.s1, h.s2⟩
theorem leave_go {G : Got Int} {z : ZSt} {x : Int} (hr : Eqv G (z.go fun s => .ok x { s with opened := s.opened - 1 })) (h : z.ov = false → In64 (z.s.opened - 1)) : Eqv G (ZSt.go { z with s := { z.s with opened := IntKind.i64.wrap (z.s.opened - 1) } } (Got.ok x)) := by
  cases hv : z.ov with
  | true =>
    rw [go_over hv] at hr
    unfold ZSt.go
    rw [if_pos rfl]
    exact hr
  | false =>
    rw [go_run hv] at hr
    unfold ZSt.go
    rw [if_neg Bool.false_ne_true, wrap_id (h hv)]
    exact hr
theorem pad_in {l : List Int} (h : LI l) {n : Nat} : LI (l ++ List.replicate n 0) := fun x hx => by
  rcases List.mem_append.1 hx with hx | hx
  · exact h x hx
  · rw [(List.mem_replicate.1 hx).2]
    exact in64_0
theorem rep_0 {l : List Int} {n : Nat} : List.replicate n (Value.int .i64 0) = ints (l.take 0 ++ List.replicate (n - 0) 0) := by simp [ints]
theorem cp_set {l : List Int} {n j : Nat} (hj : j < l.length) (hn : l.length ≤ n) : (l.take j ++ List.replicate (n - j) 0).set j (l.getD j 0) = l.take (j + 1) ++ List.replicate (n - (j + 1)) 0 := by
  have e : n - j = (n - (j + 1)) + 1 := by omega
  have h1 : (l.take j).length = j := by rw [List.length_take]; omega
  have h2 : l.getD j 0 = l[j] := by simp [List.getD, hj]
  rw [List.set_append_right _ _ (by omega), h1, Nat.sub_self, e, List.replicate_succ, List.set_cons_zero, List.take_succ_eq_append_getElem hj, List.append_assoc, h2]
  rfl
theorem arr_0 {vs : List Int} {x : Int} (h : vs.length = 0) : a0 (vs ++ [x]) = x ∧ a1 (vs ++ [x]) = a1 vs := by
  rw [List.eq_nil_of_length_eq_zero h]
  exact ⟨rfl, rfl⟩
theorem arr_1 {vs : List Int} {x : Int} (h : vs.length = 1) : a0 (vs ++ [x]) = a0 vs ∧ a1 (vs ++ [x]) = x := by
  obtain ⟨k, rfl⟩ := List.length_eq_one_iff.1 h
  exact ⟨rfl, rfl⟩
section
variable {X : RX} {E : Env0} {stm : Frm → PSt → Got (Int × Frm)} {G : Got (Int × Frm)} {z : ZSt} {k n : Nat} {f : Frm} {how : Int}
theorem ZGood.toN (h : ZGood X z) {N : Int} : ZGood X { z with N := N } := ⟨h.mem, h.n1, h.n2, h.pos, h.out, h.s1, h.s2⟩
theorem ZGood.toV (h : ZGood X z) {V : Int} : ZGood X { z with V := V } := ⟨h.mem, h.n1, h.n2, h.pos, h.out, h.s1, h.s2⟩
theorem loop_start {L : List Int} (hZ : Zok E z (n : Int) L) (h2 : z.s.steps ≤ E.fuel) : ∃ k, k ≤ n ∧ Zok E z ((k : Int) + 1) L ∧ Eqv (z.go (loopF E stm n f)) (z.go (loopF E stm (k + 1) f)) := by
  cases n with
  | zero =>
    have ho : z.ov = true := by
      rcases hZ with h | h
      · exact h
      · have := h.1
        omega
    exact ⟨0, Nat.le_refl _, .inl ho, Eqv.over ho rfl⟩
  | succ k => exact ⟨k, by omega, by rw [Int.natCast_add] at hZ; exact hZ, rfl⟩
def lpB (E : Env0) (stm : Frm → PSt → Got (Int × Frm)) (k : Nat) (p : Int × Frm) (s : PSt) : Got (Int × Frm) := if p.1 = 3 then .ok (3, p.2) s else if p.1 = 0 then loopF E stm k p.2 s else if p.2.deep > 0 then .ok (p.1, { p.2 with deep := IntKind.i64.wrap (p.2.deep - 1) }) s else if p.1 = 1 then .ok (0, p.2) s else loopF E stm k p.2 s
theorem lp_ret3 (hr : Eqv G (z.go (lpB E stm k (how, f)))) (hq : FQ how f z) (hc : (how = 3) ∨ (z.ov = true)) : Eqv G (z.go (Got.ok (3, { f with back := z.V }))) := hr.at_ fun hv => by
  have h3 : how = 3 := hc.resolve_right (fun h => by rw [hv] at h; cases h)
  rw [← hq.b h3]
  unfold lpB
  rw [if_pos h3]
  exact rfl
theorem lp_downF (hq : FQ how f z) (h3 : ¬ ((how = 3) ∨ (z.ov = true))) (h5 : (how ≠ 0) ∧ (z.N > 0)) : FQ how { f with deep := IntKind.i64.wrap (f.deep - 1) } { z with N := IntKind.i64.wrap (z.N - 1) } := by
  have hr := hq.r
  have hn : ¬ how = 3 := fun h => h3 (.inl h)
  have hd := hq.d (by omega)
  exact ⟨hr, fun h => absurd h hn, hq.n, fun _ => by show IntKind.i64.wrap (f.deep - 1) = _; rw [hd]⟩
theorem lp_down (hr : Eqv G (z.go (lpB E stm k (how, f)))) (hq : FQ how f z) (h3 : ¬ ((how = 3) ∨ (z.ov = true))) (h5 : (how ≠ 0) ∧ (z.N > 0)) : Eqv G (ZSt.go { z with N := IntKind.i64.wrap (z.N - 1) } (Got.ok (how, { f with deep := IntKind.i64.wrap (f.deep - 1) }))) := by
  have h4 := hq.r
  have hn : ¬ how = 3 := fun h => h3 (.inl h)
  have hd := hq.d (by omega)
  have hv : z.ov = false := Bool.eq_false_iff.2 (fun h => h3 (.inr h))
  refine Eqv.to (K := lpB E stm k (how, f)) hr hv hv ?_
  unfold lpB
  rw [if_neg hn, if_neg h5.1, if_pos (by show f.deep > 0; rw [hd]; exact h5.2)]
theorem lp_low (hq : FQ how f z) (h3 : ¬ ((how = 3) ∨ (z.ov = true))) (h5 : ¬ ((how ≠ 0) ∧ (z.N > 0))) (h0 : ¬ how = 0) : ¬ f.deep > 0 := by
  have hr := hq.r
  have hn : ¬ how = 3 := fun h => h3 (.inl h)
  rw [hq.d (by omega)]
  exact fun h => h5 ⟨h0, h⟩
theorem lp_ret0 (hr : Eqv G (z.go (lpB E stm k (how, f)))) (hq : FQ how f z) (h3 : ¬ ((how = 3) ∨ (z.ov = true))) (h5 : ¬ ((how ≠ 0) ∧ (z.N > 0))) (h8 : how = 1) : Eqv G (z.go (Got.ok (0, f))) := Eqv.mk_ (fun s => by
  have h0 : ¬ how = 0 := by omega
  have hl := lp_low hq h3 h5 h0
  unfold lpB
  rw [if_neg (fun h => h3 (.inl h)), if_neg h0, if_neg hl, if_pos h8]) hr
theorem lp_next3 (hr : Eqv G (z.go (lpB E stm k (how, f)))) (hq : FQ how f z) (h3 : ¬ ((how = 3) ∨ (z.ov = true))) (h5 : ¬ ((how ≠ 0) ∧ (z.N > 0))) (h8 : ¬ how = 1) : Eqv G (z.go (loopF E stm k f)) := Eqv.mk_ (fun s => by
  unfold lpB
  rw [if_neg (fun h => h3 (.inl h))]
  by_cases h0 : how = 0
  · rw [if_pos h0]
  · rw [if_neg h0, if_neg (lp_low hq h3 h5 h0), if_neg h8]) hr
end
def XSV (X : RX) (S : Nat → Prop) (w : World) (z : ZSt) (la m : Nat) (A : PSt → Got (Int × Frm)) (v : Value) (w' : World) : Prop :=
  ∃ how f z' oA oc, v = .int .i64 how ∧ ZGood X z' ∧ f.loc.length = m ∧ FQ how f z' ∧ Eqv (z.go A) (z'.go (Got.ok (how, f))) ∧ Mem S w w' (rwnL X z' oA oc ++ [frmR la m f])
def XSCalls (P : Program) (X : RX) (f : Frm) (la m : Nat) (z : ZSt) (oA : Option Addr) (oc : Nat) (w : World) (fn : FuncId) (args : List Value) (A : PSt → Got (Int × Frm)) : Prop :=
  Calls P fn args.toArray w (Ret (XSV X (xZ X z oA oc la m f) w z la m A))
def XStOk (P : Program) (X : RX) (fn : FuncId) (st : MSt → Frm → PSt → Got (Int × Frm)) (b : Int) : Prop :=
  ∀ (x : MSt) (lp d : Int) (f : Frm) (la m : Nat) (z : ZSt) (oA : Option Addr) (oc : Nat) (w : World), ZGood X z → Zok X.E.toEnv0 z b f.loc → (Res.pk (rwnL X z oA oc ++ [frmR la m f])).holds w → RO (xZ X z oA oc la m f) w X.ro →
    SubX X.T x → StW (m : Int) x → stV (m : Int) lp d x = true → f.loc.length = m → f.back = 0 → XSCalls P X f la m z oA oc w fn [pT X.r 0, .agg x.cells.toArray, .slice (some ⟨la, 0, none⟩) m m] (st x f)
def XStsOk (P : Program) (X : RX) (fn : FuncId) (stm : List MSt → Frm → PSt → Got (Int × Frm)) (b : Int) : Prop :=
  ∀ (l : List MSt) (lp d : Int) (A : Option Addr) (c : Nat) (f : Frm) (la m : Nat) (z : ZSt) (oA : Option Addr) (oc : Nat) (w : World), ZGood X z → Zok X.E.toEnv0 z b f.loc → (Res.pk (rwnL X z oA oc ++ [frmR la m f])).holds w → RO (xZ X z oA oc la m f) w X.ro →
    SubXs X.T A l → (∀ x, x ∈ l → StW (m : Int) x) → (∀ x, x ∈ l → stV (m : Int) lp d x = true) → LenOk l.length → f.loc.length = m → f.back = 0 → XSCalls P X f la m z oA oc w fn [pT X.r 0, .slice A l.length c, .slice (some ⟨la, 0, none⟩) m m] (stm l f)
end Go.Mor
namespace Go.Mor
open Go.RowKit
theorem Mem.unpkB {w : World} {r : Res} (h : r.holds w) : Mem r.fp w w [r] := ⟨rfl, rfl, rfl, Nat.le_refl _, fun _ _ _ => rfl, fun q hq => by rw [List.mem_singleton.1 hq]; exact ⟨h, fun _ hg => .inl hg⟩, List.pairwise_singleton _ _⟩
section
variable {names data : List (ByteArray × Int)} {ds : List FDat} {base m : List Int} {j k p memN : Nat} {d : FDat} {v : Int}
def wTo (ds : List FDat) (memN : Nat) : Nat → List Int
  | 0 => List.replicate memN 0
  | j + 1 => match ds[j]? with
    | none => wTo ds memN j
    | some d => writeAt (wTo ds memN j) (nextTo ds j) d.words
def rTo (names data : List (ByteArray × Int)) (ds : List FDat) (base : List Int) : Nat → List Int
  | 0 => base
  | j + 1 => match ds[j]? with
    | none => rTo names data ds base j
    | some d => putRefs names data (nextTo ds j) (rTo names data ds base j) d.refs
theorem wTo_succ (h : ds[j]? = some d) : wTo ds memN (j + 1) = writeAt (wTo ds memN j) (nextTo ds j) d.words := by
  show (match ds[j]? with
    | none => wTo ds memN j
    | some d => writeAt (wTo ds memN j) (nextTo ds j) d.words) = _
  rw [h]
theorem rTo_succ (h : ds[j]? = some d) : rTo names data ds base (j + 1) = putRefs names data (nextTo ds j) (rTo names data ds base j) d.refs := by
  show (match ds[j]? with
    | none => rTo names data ds base j
    | some d => putRefs names data (nextTo ds j) (rTo names data ds base j) d.refs) = _
  rw [h]
theorem nextTo_fits (h : ds[j]? = some d) (hm : nextTo ds ds.length ≤ memN) : nextTo ds j + d.words.length ≤ memN := by
  have hj := (List.getElem?_eq_some_iff.1 h).1
  have := nextTo_mono (ds := ds) (j := j + 1) (i := ds.length) (by omega)
  rw [nextTo_succ h] at this
  omega
theorem wTo_len : ∀ (j : Nat), j ≤ ds.length → nextTo ds ds.length ≤ memN → (wTo ds memN j).length = memN
  | 0, _, _ => by simp [wTo]
  | j + 1, hj, hm => by
    obtain ⟨d, hd⟩ := get_of (l := ds) (i := j) (by omega)
    have ih := wTo_len j (by omega) hm
    rw [wTo_succ hd, writeAt_len, ih]
    rw [ih]
    exact nextTo_fits hd hm
theorem rTo_len : ∀ (j : Nat), (rTo names data ds base j).length = base.length
  | 0 => rfl
  | j + 1 => by
    unfold rTo
    split
    · exact rTo_len j
    · rw [putRefs_len, rTo_len j]
theorem writeAt_set {ws : List Int} {i : Nat} (hi : i < p) (hp : p ≤ m.length) : writeAt (m.set i v) p ws = (writeAt m p ws).set i v := by
  unfold writeAt
  have h1 : i < (m.take p).length := by rw [List.length_take]; omega
  rw [List.append_assoc, List.append_assoc, List.set_append_left _ _ h1, List.take_set, List.drop_set_of_lt (by omega)]
theorem writeAt_refs {ws : List Int} {q : Nat} : ∀ (rs : List (Int × ByteArray)) (m : List Int), (∀ r, r ∈ rs → q + r.1.toNat < p) → p ≤ m.length → writeAt (putRefs names data q m rs) p ws = putRefs names data q (writeAt m p ws) rs
  | [], _, _, _ => rfl
  | r :: rs, m, h, hp => by
    show writeAt (putRefs names data q (m.set (q + r.1.toNat) (refV names data r.2)) rs) p ws = putRefs names data q ((writeAt m p ws).set (q + r.1.toNat) (refV names data r.2)) rs
    rw [writeAt_refs rs _ (fun x hx => h x (List.mem_cons_of_mem _ hx)) (by rw [List.length_set]; exact hp), writeAt_set (h r (List.mem_cons_self ..)) hp]
theorem writeAt_rTo {ws : List Int} (hw : ∀ d, d ∈ ds → d.WF) (hp : p ≤ base.length) : ∀ (j : Nat), j ≤ ds.length → nextTo ds j ≤ p → writeAt (rTo names data ds base j) p ws = rTo names data ds (writeAt base p ws) j
  | 0, _, _ => rfl
  | j + 1, hj, hle => by
    obtain ⟨d, hd⟩ := get_of (l := ds) (i := j) (by omega)
    have hwd := hw d (List.mem_of_getElem? hd)
    rw [nextTo_succ hd] at hle
    rw [rTo_succ hd, rTo_succ hd, writeAt_refs d.refs _ (fun r hr => by have := hwd.refs r hr; omega) (by rw [rTo_len]; exact hp), writeAt_rTo hw hp j (by omega) (by omega)]
theorem lay_two (hw : ∀ d, d ∈ ds → d.WF) (hm : nextTo ds ds.length ≤ memN) : ∀ (j : Nat), j ≤ ds.length → layTo names data ds memN j = rTo names data ds (wTo ds memN j) j
  | 0, _ => rfl
  | j + 1, hj => by
    obtain ⟨d, hd⟩ := get_of (l := ds) (i := j) (by omega)
    have h1 := nextTo_fits hd hm
    rw [layTo_succ hd, rTo_succ hd, wTo_succ hd, lay_two hw hm j (by omega), writeAt_rTo hw (by rw [wTo_len j (by omega) hm]; omega) j (by omega) (Nat.le_refl _)]
theorem writeAt_nil : writeAt m p [] = m := by
  unfold writeAt
  simp
theorem writeAt_step {ws : List Int} (hk : k < ws.length) (hp : p + ws.length ≤ m.length) : (writeAt m p (ws.take k)).set (p + k) (ws.getD k 0) = writeAt m p (ws.take (k + 1)) := by
  have h2 : ws.getD k 0 = ws[k] := by simp [List.getD, hk]
  unfold writeAt
  have e1 : (m.take p ++ ws.take k).length = p + k := by rw [List.length_append, List.length_take, List.length_take]; omega
  have e2 : (ws.take k).length = k := by rw [List.length_take]; omega
  have e3 : (ws.take (k + 1)).length = k + 1 := by rw [List.length_take]; omega
  rw [List.set_append_right _ _ (by omega), e1, Nat.sub_self, e2, e3, h2, List.take_succ_eq_append_getElem hk, List.drop_eq_getElem_cons (by omega), List.set_cons_zero]
  simp only [List.append_assoc, List.cons_append, List.nil_append, Nat.add_assoc]
theorem lyT_fit (h : nextTo ds ds.length ≤ memN) : lyT names data memN ds = layTo names data ds memN ds.length := by unfold lyT; rw [if_pos h]
def RfQ (cs : List TFn) (ds : List FDat) (s : ByteArray) (j : Nat) (v : Int) : Prop := (v ≠ 0 ∧ v = refV (nmsTo cs cs.length) (dataTo ds ds.length) s) ∨ (v = 0 ∧ lkp (dataTo ds ds.length) s = none ∧ NoK TFn.nm cs s j)
variable {cs : List TFn} {s : ByteArray} {f : TFn}
theorem RfQ.start : RfQ cs ds s 0 ((lkp (dataTo ds ds.length) s).getD 0) := by
  cases hq : lkp (dataTo ds ds.length) s with
  | none => exact .inr ⟨rfl, hq, NoK.zero⟩
  | some n =>
    obtain ⟨j, _, rfl⟩ := nextTo_of hq
    have := nextTo_pos (ds := ds) (j := j)
    exact .inl ⟨by show (nextTo ds j : Int) ≠ 0; omega, (refV_had hq).symm⟩
theorem RfQ.hit (h : RfQ cs ds s j v) (hv : v = 0) (hf : cs[j]? = some f) (hc : f.nm.toList = s.toList) : RfQ cs ds s (j + 1) ((j : Int) + 1) := by
  rcases h with ⟨h1, _⟩ | ⟨_, h2, h3⟩
  · exact absurd hv h1
  · refine .inl ⟨by omega, ?_⟩
    rw [refV_not h2, nms_at hf hc h3]
    rfl
theorem RfQ.miss (h : RfQ cs ds s j v) (hv : v = 0) (hf : cs[j]? = some f) (hc : ¬ f.nm.toList = s.toList) : RfQ cs ds s (j + 1) v := by
  rcases h with ⟨h1, _⟩ | ⟨_, h2, h3⟩
  · exact absurd hv h1
  · exact .inr ⟨hv, h2, h3.next hf hc⟩
theorem RfQ.done (h : RfQ cs ds s j v) (he : ¬ (j < cs.length ∧ v = 0)) (hj : j ≤ cs.length) : v = refV (nmsTo cs cs.length) (dataTo ds ds.length) s := by
  rcases h with ⟨_, h2⟩ | ⟨h1, h2, h3⟩
  · exact h2
  · obtain rfl : j = cs.length := by omega
    rw [refV_not h2, nms_none h3, h1]
    rfl
end
end Go.Mor
namespace Go.Mor
open Go.RowKit
section
variable {S : Nat → Prop} {w : World}
theorem xro_of {X : RX} {e1 e2 e3 n1 n2 n3 c1 c2 c3 : Nat} (h1 : RO S w (.row e1 5 X.fA n1 c1 (X.E.tfs.flatMap TFn.cells))) (h2 : RO S w (.row e2 4 X.dA n2 c2 (X.ds.flatMap FDat.cells))) (h3 : RO S w (.row e3 1 X.pA n3 c3 (ints (plcs X.ds X.ds.length)))) (h4 : RO S w (.rd X.iA (u8s X.E.inp)))
    (h5 : ∀ f, f ∈ X.E.tfs → ∀ r, r ∈ f.parts → RO S w r) : RO S w X.ro := by
  refine RO.all fun r hr => ?_
  simp only [List.mem_cons] at hr
  rcases hr with rfl | rfl | rfl | rfl | hr
  · exact h1.mono (rows_rds (fun _ => rfl) (by decide)) (fun g hg => hg.2)
  · exact h2.mono (rows_rds (fun _ => rfl) (by decide)) (fun g hg => hg.2)
  · exact RO.row_rd h3
  · exact h4
  · obtain ⟨f, hf, hr⟩ := List.mem_flatMap.1 hr
    exact h5 f hf r hr
end
theorem Eqv.outOf {a b : Got Unit} (h : Eqv a b) : outOf a = outOf b := by
  unfold Eqv Got.no at h
  cases a <;> cases b <;> simp only [Got.ok.injEq, Got.stop.injEq, reduceCtorEq] at h
  · obtain ⟨_, rfl⟩ := h
    rfl
  · obtain ⟨rfl, rfl, h⟩ := h
    have h1 := congrArg PSt.out h
    have h2 := congrArg PSt.steps h
    unfold Go.Mor.outOf outS
    simp only [Prod.mk.injEq, true_and]
    exact ⟨h1, h2⟩
section
variable {E : EnvT} {g j : Nat} {bg : List ByteArray} {b : ByteArray} {z z' : ZSt} {G : Got Unit} {x : Int}
theorem play_step (hr : Eqv G (z.go (playT E g (bg.drop j)))) (hb : bg[j]? = some b) (h : Eqv (z.go (callT E g ((lkp E.names b).getD 0) [])) (z'.go (Got.ok x))) : Eqv G (z'.go (playT E g (bg.drop (j + 1)))) :=
  Eqv.step (A := callT E g ((lkp E.names b).getD 0) []) (F := fun _ s => playT E g (bg.drop (j + 1)) s) (Eqv.mk_ (fun s => by
    rw [playT_at hb]
    have h1 := call_lk (E := E) (g := g) (l := []) (nm := b) (s := s)
    rw [← h1]
    cases lkS E.names b s <;> rfl) hr) h
theorem play_fin (hr : Eqv G (z.go (playT E g (bg.drop j)))) (h : ¬ (j < bg.length ∧ z.ov = false)) : outOf G = ((z.fin 1 0).k, (z.fin 1 0).c, (z.fin 1 0).s.out, (z.fin 1 0).s.steps) := by
  cases hz : z.ov with
  | true =>
    rw [fin_of hz]
    rw [go_over hz] at hr
    exact hr.outOf
  | false =>
    rw [fin_new hz]
    rw [go_run hz, playT_end (Nat.le_of_not_lt fun h2 => h ⟨h2, hz⟩)] at hr
    exact hr.outOf
end
abbrev z0 (mem : List Int) (n : Nat) : ZSt := ⟨false, 0, 0, lyS mem n, 0, 0⟩
section
variable {w : World} {ms : List TMod} {mA : Option Addr} {bg : List ByteArray} {gA : Option Addr} {mem fuel : Int} {inp : List Int} {iA : Option Addr} {ic : Nat}
theorem run_xwf (hI : RunInT w ms mA bg gA inp iA ic) (hb : ¬ badT ms mem inp ms.length) (hfit : nextTo (csD ms) (csD ms).length ≤ mem.toNat) (r : Nat) (fA : Option Addr) (fc : Nat) (dA : Option Addr) (dc : Nat) (pA : Option Addr) (pc mG : Nat) : (⟨envT ms mem inp fuel, csD ms, r, fA, fc, dA, dc, pA, pc, mG, iA, ic⟩ : RX).WF where
  fns f hf := by
    obtain ⟨m, hm, hfm⟩ := List.mem_flatMap.1 (csF_mem hf)
    exact ⟨fn_wf ((hI.ins m hm).fns f hfm) (fn_right (badT_not hb m hm) hfm), fn_right (badT_not hb m hm) hfm⟩
  nfns := by
    have h1 := csF_len (ms := ms)
    have h2 := hI.nf
    show (csF ms).length ≤ 1000000
    omega
  nds := by
    have h1 := csD_len (ms := ms)
    have h2 := hI.nd
    show (csD ms).length ≤ 1000000
    omega
  next := by
    have : mem ≤ 262144 := by unfold badT at hb; omega
    show nextTo (csD ms) (csD ms).length ≤ 262144
    omega
  names := rfl
  data := rfl
  mem := by
    show mem.toNat ≤ 262144
    unfold badT at hb
    omega
  fuel := ⟨by show 0 ≤ min (max fuel 0) 4194304; omega, by show min (max fuel 0) 4194304 ≤ 4194304; omega⟩
  inp := by
    show inp.length ≤ 4096
    unfold badT at hb
    omega
  ic := hI.ilen
  bytes := hI.bytes
theorem nextTo_sum {ds : List FDat} (hw : ∀ d, d ∈ ds → d.WF) : ∀ j, j ≤ ds.length → nextTo ds j ≤ 1 + 16384 * j
  | 0, _ => by rw [nextTo_zero]; omega
  | j + 1, hj => by
    obtain ⟨d, hd⟩ := get_of (l := ds) (i := j) (by omega)
    have := (hw d (List.mem_of_getElem? hd)).len
    have := nextTo_sum hw j (by omega)
    rw [nextTo_succ hd]
    omega
end
theorem run_words {w : World} {ms : List TMod} {mA : Option Addr} {bg : List ByteArray} {gA : Option Addr} {inp : List Int} {iA : Option Addr} {ic : Nat} (hI : RunInT w ms mA bg gA inp iA ic) {d : FDat} (hd : d ∈ flD ms) : LI d.words := by
  obtain ⟨m, hm, hdm⟩ := List.mem_flatMap.1 hd
  exact (hI.ins m hm).i64 d hdm
theorem valid_next {ms : List TMod} {j : Nat} {m : TMod} (h : ∀ i m, i < j → ms[i]? = some m → validT m = 0) (hm : ms[j]? = some m) (hv : validT m = 0) : ∀ i m, i < j + 1 → ms[i]? = some m → validT m = 0 := fun i m' hi hm' => by
  by_cases e : i = j
  · subst e
    rw [hm] at hm'
    injection hm' with hm'
    rw [← hm']
    exact hv
  · exact h i m' (by omega) hm'
theorem row_take {S : Nat → Prop} {w : World} {e n c : Nat} {A : Option Addr} {cs : List TFn} (h : RO S w (.row e 1 A n c ((cs.take cs.length).map fun f : TFn => Value.string f.nm))) : RO S w (.row e 1 A n c (cs.map fun f => Value.string f.nm)) := by
  rw [List.take_length] at h
  exact h
theorem xro_run {S : Nat → Prop} {w : World} {X : RX} {ms : List TMod} {mA : Option Addr} {r fc dc pc mG ic e1 e2 e3 n1 n2 n3 c1 c2 c3 : Nat} {fA dA pA iA : Option Addr} {mem fuel : Int} {inp : List Int} (hX : X = ⟨envT ms mem inp fuel, csD ms, r, fA, fc, dA, dc, pA, pc, mG, iA, ic⟩) (h1 : RO S w (.row e1 5 fA n1 c1 ((csF ms).flatMap TFn.cells))) (h2 : RO S w (.row e2 4 dA n2 c2 ((csD ms).flatMap FDat.cells)))
    (h3 : RO S w (.row e3 1 pA n3 c3 (ints (plcs (csD ms) (csD ms).length)))) (h4 : RO S w (.rd iA (u8s inp))) (h5 : RO S w (.mods mA ms)) : RO S w X.ro := by
  subst hX
  exact xro_of h1 h2 h3 h4 (fun f hf r hr => h5.mtree (csF_mem hf) hr)
theorem fuel_eq (fuel : Int) : max 0 (min fuel 4194304) = min (max fuel 0) 4194304 := by omega
section
variable {X : RX} {n : Nat}
theorem lyT_len {names data : List (ByteArray × Int)} {memN : Nat} {ds : List FDat} (h : nextTo ds ds.length ≤ memN) : (lyT names data memN ds).length = memN := by
  rw [lyT_fit h]
  exact layTo_len _ (Nat.le_refl _) h
theorem z0_good {m : List Int} (hm : m.length = X.E.memN) (h1 : 1 ≤ n) (h2 : n ≤ X.E.memN) (hf : 0 ≤ X.E.fuel) : ZGood X (z0 m n) where
  mem := hm
  n1 := by show (1 : Int) ≤ (n : Int); omega
  n2 := by show (n : Int) ≤ X.E.memN; omega
  pos := Nat.zero_le _
  out := Nat.zero_le _
  s1 := Int.le_refl _
  s2 := hf
theorem set_refs_in {names data : List (ByteArray × Int)} (hn : ∀ nm v, lkp names nm = some v → In64 v) (hd : ∀ nm v, lkp data nm = some v → In64 v) {p : Nat} : ∀ (rs : List (Int × ByteArray)) (m : List Int), LI m → LI (putRefs names data p m rs)
  | [], _, h => h
  | r :: rs, m, h => set_refs_in hn hd rs _ (set_in h (by
      unfold refV
      split
      · exact hd _ _ ‹_›
      · cases hq : lkp names r.2 with
        | none => exact in64_0
        | some v => exact hn _ _ hq))
theorem writeAt_in {m ws : List Int} {p : Nat} (h : LI m) (hw : LI ws) : LI (writeAt m p ws) := fun x hx => by
  unfold writeAt at hx
  rcases List.mem_append.1 hx with hx | hx
  · rcases List.mem_append.1 hx with hx | hx
    · exact h x (List.mem_of_mem_take hx)
    · exact hw x hx
  · exact h x (List.mem_of_mem_drop hx)
theorem layTo_in {names data : List (ByteArray × Int)} {ds : List FDat} {memN : Nat} (hn : ∀ nm v, lkp names nm = some v → In64 v) (hd : ∀ nm v, lkp data nm = some v → In64 v) (hw : ∀ d, d ∈ ds → LI d.words) : ∀ j, LI (layTo names data ds memN j)
  | 0 => fun x hx => by
    have hx2 : x ∈ List.replicate memN (0 : Int) := hx
    rw [(List.mem_replicate.1 hx2).2]
    exact in64_0
  | j + 1 => by
    show LI (match ds[j]? with
      | none => layTo names data ds memN j
      | some d => putRefs names data (nextTo ds j) (writeAt (layTo names data ds memN j) (nextTo ds j) d.words) d.refs)
    split
    · exact layTo_in hn hd hw j
    · exact set_refs_in hn hd _ _ (writeAt_in (layTo_in hn hd hw j) (hw _ (List.mem_of_getElem? ‹_›)))
end
end Go.Mor
namespace Go.Mor
open Go.RowKit
theorem keep_of {a b : Bool} (h : ¬ ((a = true) ∧ (¬ (b = true)))) : a = false ∨ b = true := by
  cases a <;> cases b <;> simp at h ⊢
section
variable {β : Type} {g : TMod → List β} {key : β → ByteArray × Bool} {ms : List TMod} {nm : ByteArray} {i p q p2 q2 k : Nat} {a b : Int} {m m2 : TMod} {x x2 : β}
theorem off_mono (h : p < i) (hi : i ≤ ms.length) : offG g ms (p + 1) ≤ offG g ms i := by
  induction i with
  | zero => omega
  | succ i ih =>
    obtain ⟨m, hm⟩ := get_of (l := ms) (i := i) (by omega)
    rw [off_succ (g := g) hm]
    by_cases e : p = i
    · subst e
      rw [off_succ (g := g) hm]
      exact Nat.le_refl _
    · have := ih (by omega) (by omega)
      omega
theorem off_inj (hm : ms[p]? = some m) (hx : (g m)[q]? = some x) (hm2 : ms[p2]? = some m2) (hx2 : (g m2)[q2]? = some x2) (h : offG g ms p + q = offG g ms p2 + q2) : p = p2 ∧ q = q2 := by
  have hq := (List.getElem?_eq_some_iff.1 hx).1
  have hq2 := (List.getElem?_eq_some_iff.1 hx2).1
  have hp := (List.getElem?_eq_some_iff.1 hm).1
  have hp2 := (List.getElem?_eq_some_iff.1 hm2).1
  have h1 := off_succ (g := g) hm
  have h2 := off_succ (g := g) hm2
  rcases Nat.lt_trichotomy p p2 with hlt | he | hlt
  · have := off_mono (g := g) hlt (Nat.le_of_lt hp2)
    omega
  · subst he
    exact ⟨rfl, by omega⟩
  · have := off_mono (g := g) hlt (Nat.le_of_lt hp)
    omega
abbrev nwG (g : TMod → List β) (key : β → ByteArray × Bool) (ms : List TMod) : NW := (ms.flatMap g).map key
theorem nwG_at (hx : (ms.flatMap g)[i]? = some x) : (nwG g key ms)[i]? = some (key x) := by rw [List.getElem?_map, hx]; rfl
def Pk (g : TMod → List β) (key : β → ByteArray × Bool) (ms : List TMod) (nm : ByteArray) (i : Nat) (a b : Int) : Prop :=
  (a = -1 ∧ ∀ k y, k < i → (nwG g key ms)[k]? = some y → y.1 ≠ nm) ∨
  ∃ (p q : Nat) (m : TMod) (x : β), a = p ∧ b = q ∧ ms[p]? = some m ∧ (g m)[q]? = some x ∧ offG g ms p + q < i ∧ (key x).1 = nm ∧
    ∀ k y, k < i → (nwG g key ms)[k]? = some y → y.1 = nm → k ≠ offG g ms p + q → beatsB (nwG g key ms) (offG g ms p + q) k = true
theorem Pk.start : Pk g key ms nm 0 (-1) b := .inl ⟨rfl, fun k _ hk => absurd hk (Nat.not_lt_zero k)⟩
theorem Pk.got (h : Pk g key ms nm i a b) (ha : ¬ a < 0) : ∃ (p q : Nat) (m : TMod) (x : β), a = p ∧ b = q ∧ ms[p]? = some m ∧ (g m)[q]? = some x := by
  rcases h with h | ⟨p, q, m, x, h1, h2, h3, h4, _⟩
  · rw [h.1] at ha
    exact absurd (by decide) ha
  · exact ⟨p, q, m, x, h1, h2, h3, h4⟩
theorem Pk.skip (h : Pk g key ms nm i a b) (hx : (ms.flatMap g)[i]? = some x) (hn : ¬ (key x).1.toList = nm.toList) : Pk g key ms nm (i + 1) a b := by
  have hne : (key x).1 ≠ nm := fun e => hn (by rw [e])
  have hat := nwG_at (key := key) hx
  rcases h with ⟨h1, h2⟩ | ⟨p, q, m, x', h1, h2, h3, h4, h5, h6, h7⟩
  · refine .inl ⟨h1, fun k y hk hy => ?_⟩
    by_cases e : k = i
    · rw [e, hat] at hy
      injection hy with hy
      rw [← hy]
      exact hne
    · exact h2 k y (by omega) hy
  · refine .inr ⟨p, q, m, x', h1, h2, h3, h4, by omega, h6, fun k y hk hy hyn hkn => ?_⟩
    by_cases e : k = i
    · rw [e, hat] at hy
      injection hy with hy
      rw [← hy] at hyn
      exact absurd hyn hne
    · exact h7 k y (by omega) hy hyn hkn
theorem Pk.take1 (h : Pk g key ms nm (offG g ms p + q) a b) (ha : a < 0) (hm : ms[p]? = some m) (hx : (g m)[q]? = some x) (hn : (key x).1.toList = nm.toList) : Pk g key ms nm (offG g ms p + q + 1) p q := by
  rcases h with ⟨_, h2⟩ | ⟨p', q', m', x', h1, _⟩
  · refine .inr ⟨p, q, m, x, rfl, rfl, hm, hx, by omega, ba_same.1 hn, fun k y hk hy hyn hkn => absurd hyn (h2 k y (by omega) hy)⟩
  · omega
theorem Pk.take2 (h : Pk g key ms nm (offG g ms p + q) (p2 : Int) (q2 : Int)) (hm2 : ms[p2]? = some m2) (hx2 : (g m2)[q2]? = some x2) (hm : ms[p]? = some m) (hx : (g m)[q]? = some x) (hn : (key x).1.toList = nm.toList) (hw2 : (key x2).2 = true) (hw : (key x).2 = false) : Pk g key ms nm (offG g ms p + q + 1) p q := by
  rcases h with ⟨h1, _⟩ | ⟨p', q', m', x', h1, h2, h3, h4, h5, h6, h7⟩
  · omega
  have e1 : p' = p2 := by omega
  have e2 : q' = q2 := by omega
  subst e1 e2
  rw [hm2] at h3
  injection h3 with h3
  subst h3
  rw [hx2] at h4
  injection h4 with h4
  subst h4
  refine .inr ⟨p, q, m, x, rfl, rfl, hm, hx, by omega, ba_same.1 hn, fun k y hk hy hyn hkn => ?_⟩
  have hself := nwG_at (key := key) (flat_get hm hx)
  rw [beats_at hself hy]
  have hy2 : y.2 = true := by
    by_cases e : k = offG g ms p' + q'
    · rw [e, nwG_at (key := key) (flat_get hm2 hx2)] at hy
      injection hy with hy
      rw [← hy]
      exact hw2
    · have h8 := h7 k y (by omega) hy hyn e
      rw [beats_at (nwG_at (key := key) (flat_get hm2 hx2)) hy, hw2] at h8
      simp only [Bool.not_true, Bool.false_and, Bool.false_or, Bool.and_eq_true, beq_iff_eq] at h8
      exact h8.2.1.symm
  rw [hw, hy2, ba_same.1 hn, hyn]
  simp
theorem Pk.keep (h : Pk g key ms nm i (p2 : Int) (q2 : Int)) (hm2 : ms[p2]? = some m2) (hx2 : (g m2)[q2]? = some x2) (hx : (ms.flatMap g)[i]? = some x) (hn : (key x).1.toList = nm.toList) (hc : (key x2).2 = false ∨ (key x).2 = true) : Pk g key ms nm (i + 1) (p2 : Int) (q2 : Int) := by
  rcases h with ⟨h1, _⟩ | ⟨p', q', m', x', h1, h2, h3, h4, h5, h6, h7⟩
  · omega
  have e1 : p' = p2 := by omega
  have e2 : q' = q2 := by omega
  subst e1 e2
  rw [hm2] at h3
  injection h3 with h3
  subst h3
  rw [hx2] at h4
  injection h4 with h4
  subst h4
  refine .inr ⟨p', q', m2, x2, rfl, rfl, hm2, hx2, by omega, h6, fun k y hk hy hyn hkn => ?_⟩
  by_cases e : k = i
  · subst e
    rw [beats_at (nwG_at (key := key) (flat_get hm2 hx2)) hy]
    rw [nwG_at (key := key) hx] at hy
    injection hy with hy
    subst hy
    have hlt : decide (offG g ms p' + q' < k) = true := decide_eq_true h5
    rw [h6, hyn, hlt]
    rcases hc with hc | hc <;> rw [hc]
    · cases (key x).2 <;> simp
    · cases (key x2).2 <;> simp
  · exact h7 k y (by omega) hy hyn hkn
theorem Pk.best (h : Pk g key ms nm (ms.flatMap g).length a b) (hm : ms[p]? = some m) (hx : (g m)[q]? = some x) (hn : (key x).1 = nm) : (a = (p : Int) ∧ b = (q : Int)) ↔ bestB (nwG g key ms) (offG g ms p + q) = true := by
  have hself := nwG_at (key := key) (flat_get hm hx)
  have hlt := (List.getElem?_eq_some_iff.1 (flat_get hm hx)).1
  have hlen : (nwG g key ms).length = (ms.flatMap g).length := List.length_map ..
  rcases h with ⟨_, h2⟩ | ⟨p', q', m', x', h1, h2, h3, h4, h5, h6, h7⟩
  · exact absurd hn (h2 _ _ hlt hself)
  constructor
  · rintro ⟨ha, hb⟩
    have e1 : p' = p := by omega
    have e2 : q' = q := by omega
    subst e1 e2
    refine bestB_iff.2 fun k hk => ?_
    obtain ⟨y, hy⟩ := get_of (l := nwG g key ms) (i := k) hk
    by_cases e : k = offG g ms p' + q'
    · subst e
      rw [beats_at hself hself]
      simp
    · by_cases hyn : y.1 = nm
      · exact beats_not (h7 k y (by omega) hy hyn e)
      · rw [beats_at hy hself, hn, beq_eq_false_iff_ne.2 hyn, Bool.false_and]
  · intro hb
    by_cases e : offG g ms p + q = offG g ms p' + q'
    · obtain ⟨e1, e2⟩ := off_inj hm hx h3 h4 e
      rw [h1, h2, e1, e2]
      exact ⟨rfl, rfl⟩
    · have h8 := h7 _ _ hlt hself hn e
      rw [bestB_iff.1 hb _ (by omega)] at h8
      cases h8
end
end Go.Mor
namespace Go.Proofs.Ytdcgcjibgihbbaa
open Go.Mor
theorem rkchosen_c (ms : List TMod) (mA : Option Addr) (mc : Nat) (w : World) (hms : RO noS w (.mods mA ms)) (hml : ms.length ≤ 1000) (hnf : (ms.flatMap (fun m : TMod => m.fns)).length ≤ 1000) (nm : ByteArray) :
    Calls Try.prog 57 #[(vS mA ms.length mc), (.string nm)] w (Ret fun v w' => ∃ a b, v = .tuple #[.int .i64 a, .int .i64 b] ∧ Pk (fun m : TMod => m.fns) (fun f : TFn => (f.nm, f.wk)) ms nm ((ms.flatMap (fun m : TMod => m.fns)).length) a b ∧ Mem noS w w' []) := by
 refine zen 63 [(vS mA ms.length mc), (.string nm)] Try.func57 ?_
 have hM := Mem.init w
 refine zsp <| zsp <| zsq <| zsp <| zbk 0 ?_
 intro aC fr
 refine zlp (fun n_ a_ w_ => ∃ (j : Nat) (ai : Int) (bi : Int), n_ = ms.length - j ∧ Fr a_ 63 [(0, (vS mA ms.length mc)), (1, (.string nm)), (6, (vI ai)), (7, (vI bi)), (8, (nV j))] ∧ Mem noS w w_ [] ∧ (j ≤ ms.length) ∧ (Pk (fun m : TMod => m.fns) (fun f : TFn => (f.nm, f.wk)) ms nm (offG (fun m : TMod => m.fns) ms j) ai bi)) (n := _) ⟨0, (-1), (-1), rfl, fr.kp [0, 1, 6, 7, 8], hM, Nat.zero_le _, Pk.start⟩ ?_
 clear fr aC hM; rintro n aC w3 ⟨j, ai, bi, rfl, fr, M4, hj, hp⟩
 revert aC
 refine zsq <| zsp <| zcD (((j : Int) : Int) < ((ms.length : Nat) : Int)) (fun c7 => ?_) (fun c7 => ?_)
 refine zsk <| zsq <| zbk 1 <| zsr ?_
 obtain ⟨m, hm⟩ := get_of (l := ms) (i := j) (by omega)
 have hmm := List.mem_of_getElem? hm
 have hle := off_le (g := (fun m : TMod => m.fns)) hm
 refine zpn 1 <| zfe <| zbk 2 ?_
 intro aC fr
 refine zlp (fun n_ a_ w_ => ∃ (k : Nat) (ak : Int) (bk : Int), n_ = m.fns.length - k ∧ Fr a_ 63 [(0, (vS mA ms.length mc)), (1, (.string nm)), (6, (vI ak)), (7, (vI bk)), (8, (nV j)), (9, (nV k))] ∧ Mem noS w w_ [] ∧ (k ≤ m.fns.length) ∧ (Pk (fun m : TMod => m.fns) (fun f : TFn => (f.nm, f.wk)) ms nm (offG (fun m : TMod => m.fns) ms j + k) ak bk)) (n := _) ⟨0, ai, bi, rfl, fr.kp [0, 1, 6, 7, 8, 9], M4, Nat.zero_le _, hp⟩ ?_
 clear fr aC M4; rintro n aC w10 ⟨k, ak, bk, rfl, fr, M11, hk, hpk⟩
 revert aC
 refine zsq <| zsr <| zpn 3 ?_
 obtain ⟨ad14, rfl⟩ := rds_some (M11.ro hms.mcells) (cs := m.cells) (i := j) (gm hm)
 refine zix ad14 ms.length 3 (j : Int) <| zpn 1 ?_
 refine zld (((ad14 : Addr).add (((j : Int)).toNat * 3)).add 1) (vS m.fA m.fns.length m.fc) (rds_get (M11.ro hms.mcells) rfl (i := j) (cs := m.cells) (gm hm) 1 _ rfl) ?_
 refine zpn 2 <| zfe <| zcD (((k : Int) : Int) < ((m.fns.length : Nat) : Int)) (fun c15 => ?_) (fun c15 => ?_)
 refine zsk <| zsq <| zbk 3 <| zsr ?_
 obtain ⟨f, hf⟩ := get_of (l := m.fns) (i := k) (by omega)
 refine zpn 2 <| zix ad14 ms.length 3 (j : Int) <| zpn 1 ?_
 refine zld (((ad14 : Addr).add (((j : Int)).toNat * 3)).add 1) (vS m.fA m.fns.length m.fc) (rds_get (M11.ro hms.mcells) rfl (i := j) (cs := m.cells) (gm hm) 1 _ rfl) ?_
 refine zpn 1 ?_
 obtain ⟨ad16, had17⟩ := rds_some (M11.ro (hms.mfns hmm)) (cs := f.cells) (i := k) (gm hf)
 intro aC fr
 refine From_ixA (some 33) m.fA ad16 m.fns.length 5 (k : Int) fr (by kernel_rfl) had17 (by omega) (by omega) ?_
 intro aC fr
 revert aC
 refine zls ((ad16 : Addr).add (((k : Int)).toNat * 5)) (FC f) (rds_cells (i := k) (M11.ro (hms.mfns hmm)) had17 (gm hf)) ?_
 refine zkp [(0, (vS (some ad14) ms.length mc)), (1, (.string nm)), (6, (vI ak)), (7, (vI bk)), (8, (nV j)), (9, (nV k)), (34, (.agg (FC f).toArray))] <| zal M11 45 [(.string ⟨#[]⟩), (.bool false), (vI 0), (vI 0), (vS none 0 0)] fun b22 w23 hb22 M24 => ?_
 replace M24 := M24.nf
 refine zss M24 0 (FC f) rfl fun w25 M26 => ?_
 replace M26 := M26.nf
 refine zfe <| zsr <| zpn 1 <| zld ⟨b22, 0, none⟩ (.string f.nm) (blk_cell (M26.get 0 rfl) rfl) <| zpn 3 ?_
 obtain ⟨B27, hB27⟩ : ∃ B : Bool, B = ((f.nm : ByteArray).toList == (nm : ByteArray).toList) := ⟨_, rfl⟩
 refine zkp [(0, (vS (some ad14) ms.length mc)), (1, (.string nm)), (6, (vI ak)), (7, (vI bk)), (8, (nV j)), (9, (nV k)), (10, (pT b22 0)), (39, (.bool ((f.nm : ByteArray).toList == (nm : ByteArray).toList)))] ?_
 rw [← hB27]
 have iB27 : B27 = true ↔ ((f.nm).toList = (nm).toList) := by rw [hB27]; simp only [beq_iff_eq]
 clear hB27
 intro aC fr
 refine zpk 3 8 [42] fr (news := [(42, (cond B27 (.bool (decide ((ak : Int) < 0))) undef))]) (by cases B27 <;> kernel_rfl) ?_
 intro aC fr
 obtain ⟨B32, hB32⟩ : ∃ B : Bool, B = decide ((ak : Int) < 0) := ⟨_, rfl⟩
 revert aC
 refine zkp [(0, (vS (some ad14) ms.length mc)), (1, (.string nm)), (6, (vI ak)), (7, (vI bk)), (8, (nV j)), (9, (nV k)), (10, (pT b22 0)), (39, (.bool B27)), (42, (cond B27 (.bool (decide ((ak : Int) < 0))) undef))] ?_
 rw [← hB32]
 have iB32 : B32 = true ↔ ((ak : Int) < 0) := by rw [hB32]; simp only [decide_eq_true_eq]
 clear hB32
 intro aC fr
 refine zpk 2 10 [43, 44] fr (news := [(43, (cond (B27 && !B32) (vS (some ad14) ms.length mc) undef)), (44, (cond (B27 && !B32) (vI ak) undef))]) (by cases B27 <;> cases B32 <;> kernel_rfl) ?_
 intro aC fr
 cases B27
 have c27 : ¬ ((f.nm).toList = (nm).toList) := (fun h => Bool.noConfusion (iB27.2 h) : ¬ ((f.nm).toList = (nm).toList))
 revert aC
 refine zpn 14 <| zfe <| zcF <| zsk <| zrg <| zpn 1 <| zar ((k : Int) + 1) <| zpn 1 <| zfe ?_
 intro aC fr
 exact ⟨m.fns.length - (k + 1), by omega, k + 1, ak, bk, rfl, fr.kp [0, 1, 6, 7, 8, 9], (M26.tk 0), by omega, hpk.skip (flat_get hm hf) c27⟩
 have c27 : ((f.nm).toList = (nm).toList) := iB27.1 rfl
 cases B32
 have c32 : ¬ ((ak : Int) < 0) := (fun h => Bool.noConfusion (iB32.2 h) : ¬ ((ak : Int) < 0))
 obtain ⟨p, q, m2, f2, rfl, rfl, hm2, hf2⟩ := hpk.got (by omega)
 have hm2m := List.mem_of_getElem? hm2
 have hpl := (List.getElem?_eq_some_iff.1 hm2).1
 have hql := (List.getElem?_eq_some_iff.1 hf2).1
 revert aC
 refine zix ad14 ms.length 3 (p : Int) <| zpn 1 ?_
 refine zld (((ad14 : Addr).add (((p : Int)).toNat * 3)).add 1) (vS m2.fA m2.fns.length m2.fc) (rds_get (M26.ro hms.mcells) rfl (i := p) (cs := m2.cells) (gm hm2) 1 _ rfl) ?_
 refine zpn 1 ?_
 obtain ⟨ad39, had40⟩ := rds_some (M26.ro (hms.mfns hm2m)) (cs := f2.cells) (i := q) (gm hf2)
 intro aC fr
 refine From_ixA (some 49) m2.fA ad39 m2.fns.length 5 (q : Int) fr (by kernel_rfl) had40 (by omega) (by omega) ?_
 intro aC fr
 revert aC
 refine zpn 1 ?_
 refine zld (((ad39 : Addr).add (((q : Int)).toNat * 5)).add 1) (.bool f2.wk) (rds_get (M26.ro (hms.mfns hm2m)) had40 (i := q) (cs := f2.cells) (gm hf2) 1 _ rfl) ?_
 refine zpn 1 ?_
 obtain ⟨B45, hB45⟩ : ∃ B : Bool, B = f2.wk := ⟨_, rfl⟩
 refine zkp [(0, (vS (some ad14) ms.length mc)), (1, (.string nm)), (6, (nV p)), (7, (nV q)), (8, (nV j)), (9, (nV k)), (10, (pT b22 0)), (39, (.bool true)), (42, (.bool false)), (52, (.bool f2.wk))] ?_
 rw [← hB45]
 have iB45 : B45 = true ↔ (f2.wk = true) := by rw [hB45]
 clear hB45
 intro aC fr
 refine zpk 1 19 [53] fr (news := [(53, (cond B45 (pT b22 1) undef))]) (by cases B45 <;> kernel_rfl) ?_
 intro aC fr
 refine From_either (B := B45) (d := (some 54)) (.bool f.wk) fr (by cases B45 <;> kernel_rfl) (fun hB hh => ?_) ?_
 cases B45 <;> try exact absurd hB (by decide)
 have c45 : (f2.wk = true) := iB45.1 rfl
 exact From_ld (some 54) ⟨b22, 1, none⟩ fr (by kernel_rfl) (.bool f.wk) (blk_cell (M26.get 0 rfl) rfl) hh
 intro aC fr
 refine zpk 4 24 [56, 57, 58] fr (news := [(56, (.bool (B45 && (!f.wk)))), (57, (.bool (B45 && (!f.wk)))), (58, (.bool (B45 && (!f.wk))))]) (by cases B45 <;> kernel_rfl) ?_
 intro aC fr
 revert aC
 refine zfe <| zcP (B45 && (!f.wk)) ((f2.wk = true) ∧ (¬ (f.wk = true))) (by simp only [Bool.and_eq_true, notT, iB45]) (fun c54 => ?_) (fun c54 => ?_)
 refine zrp <| zrg <| zpn 1 <| zar ((k : Int) + 1) <| zpn 1 <| zfe ?_
 intro aC fr
 exact ⟨m.fns.length - (k + 1), by omega, k + 1, (j : Int), (k : Int), rfl, fr.kp [0, 1, 6, 7, 8, 9], (M26.tk 0), by omega, hpk.take2 hm2 hf2 hm hf c27 c54.1 (Bool.eq_false_iff.2 c54.2)⟩
 refine zsk <| zrg <| zpn 1 <| zar ((k : Int) + 1) <| zpn 1 <| zfe ?_
 intro aC fr
 exact ⟨m.fns.length - (k + 1), by omega, k + 1, (p : Int), (q : Int), rfl, fr.kp [0, 1, 6, 7, 8, 9], (M26.tk 0), by omega, hpk.keep hm2 hf2 (flat_get hm hf) c27 (keep_of c54)⟩
 have c32 : ((ak : Int) < 0) := iB32.1 rfl
 revert aC
 refine zpn 14 <| zfe <| zcT <| zrp <| zrg <| zpn 1 <| zar ((k : Int) + 1) <| zpn 1 <| zfe ?_
 intro aC fr
 exact ⟨m.fns.length - (k + 1), by omega, k + 1, (j : Int), (k : Int), rfl, fr.kp [0, 1, 6, 7, 8, 9], (M26.tk 0), by omega, hpk.take1 c32 hm hf c27⟩
 refine zex 2 <| zbh <| zrg <| zpn 1 <| zar ((j : Int) + 1) <| zpn 1 <| zfe ?_
 intro aC fr
 exact ⟨ms.length - (j + 1), by omega, j + 1, ak, bk, rfl, fr.kp [0, 1, 6, 7, 8], M11, by omega, (by rw [off_succ hm]; exact (show k = m.fns.length by omega) ▸ hpk)⟩
 refine zex 0 <| zbh <| zsp <| zre <| zo2 (vI ai) (vI bi) ?_
 exact ⟨ai, bi, rfl, off_end (g := (fun m : TMod => m.fns)) (show ms.length ≤ j by omega) ▸ hp, M4⟩
theorem rFuncs_c (ms : List TMod) (mA : Option Addr) (mc : Nat) (w : World) (hms : RO noS w (.mods mA ms)) (hml : ms.length ≤ 1000) (hnf : (ms.flatMap (fun m : TMod => m.fns)).length ≤ 1000) :
    Calls Try.prog 36 #[(vS mA ms.length mc)] w (Ret fun v w' => ∃ A c, v = .slice A (csF ms).length c ∧ Mem noS w w' [.row 45 5 A (csF ms).length c ((csF ms).flatMap TFn.cells)]) := by
 refine zen 58 [(vS mA ms.length mc)] Try.func36 ?_
 have hM := Mem.init w
 refine zsp <| zsp <| zsq <| zsp <| zbk 0 ?_
 have M1 := hM.cl (Mem.nilrow _ 45 5)
 clear hM
 intro aC fr
 refine zlp (fun n_ a_ w_ => ∃ (j : Nat) (Aj : Option Addr) (cj : Nat), n_ = ms.length - j ∧ Fr a_ 58 [(0, (vS mA ms.length mc)), (3, (vS Aj ((chosenTo (nwG (fun m : TMod => m.fns) (fun f : TFn => (f.nm, f.wk)) ms) (ms.flatMap (fun m : TMod => m.fns)) (offG (fun m : TMod => m.fns) ms j)).length) cj)), (4, (nV j))] ∧ Mem noS w w_ [.row 45 5 Aj ((chosenTo (nwG (fun m : TMod => m.fns) (fun f : TFn => (f.nm, f.wk)) ms) (ms.flatMap (fun m : TMod => m.fns)) (offG (fun m : TMod => m.fns) ms j)).length) cj ((chosenTo (nwG (fun m : TMod => m.fns) (fun f : TFn => (f.nm, f.wk)) ms) (ms.flatMap (fun m : TMod => m.fns)) (offG (fun m : TMod => m.fns) ms j)).flatMap TFn.cells)] ∧ (j ≤ ms.length)) (n := _) ⟨0, none, 0, rfl, fr.kp [0, 3, 4], M1, Nat.zero_le _⟩ ?_
 clear fr aC M1; rintro n aC w4 ⟨j, Aj, cj, rfl, fr, M5, hj⟩
 revert aC
 refine zsq <| zsp <| zcD (((j : Int) : Int) < ((ms.length : Nat) : Int)) (fun c8 => ?_) (fun c8 => ?_)
 refine zsk <| zsq <| zbk 1 <| zsr ?_
 obtain ⟨m, hm⟩ := get_of (l := ms) (i := j) (by omega)
 have hmm := List.mem_of_getElem? hm
 have hle := off_le (g := (fun m : TMod => m.fns)) hm
 refine zpn 1 <| zfe <| zbk 2 ?_
 intro aC fr
 refine zlp (fun n_ a_ w_ => ∃ (k : Nat) (Ak : Option Addr) (ck : Nat), n_ = m.fns.length - k ∧ Fr a_ 58 [(0, (vS mA ms.length mc)), (3, (vS Ak ((chosenTo (nwG (fun m : TMod => m.fns) (fun f : TFn => (f.nm, f.wk)) ms) (ms.flatMap (fun m : TMod => m.fns)) (offG (fun m : TMod => m.fns) ms j + k)).length) ck)), (4, (nV j)), (5, (nV k))] ∧ Mem noS w w_ [.row 45 5 Ak ((chosenTo (nwG (fun m : TMod => m.fns) (fun f : TFn => (f.nm, f.wk)) ms) (ms.flatMap (fun m : TMod => m.fns)) (offG (fun m : TMod => m.fns) ms j + k)).length) ck ((chosenTo (nwG (fun m : TMod => m.fns) (fun f : TFn => (f.nm, f.wk)) ms) (ms.flatMap (fun m : TMod => m.fns)) (offG (fun m : TMod => m.fns) ms j + k)).flatMap TFn.cells)] ∧ (k ≤ m.fns.length)) (n := _) ⟨0, Aj, cj, rfl, fr.kp [0, 3, 4, 5], M5, Nat.zero_le _⟩ ?_
 clear fr aC M5; rintro n aC w11 ⟨k, Ak, ck, rfl, fr, M12, hk⟩
 revert aC
 refine zsq <| zsr <| zpn 3 ?_
 obtain ⟨ad15, rfl⟩ := rds_some (M12.ro hms.mcells) (cs := m.cells) (i := j) (gm hm)
 refine zix ad15 ms.length 3 (j : Int) <| zpn 1 ?_
 refine zld (((ad15 : Addr).add (((j : Int)).toNat * 3)).add 1) (vS m.fA m.fns.length m.fc) (rds_get (M12.ro hms.mcells) rfl (i := j) (cs := m.cells) (gm hm) 1 _ rfl) ?_
 refine zpn 2 <| zfe <| zcD (((k : Int) : Int) < ((m.fns.length : Nat) : Int)) (fun c16 => ?_) (fun c16 => ?_)
 refine zsk <| zsq <| zbk 3 <| zsr ?_
 obtain ⟨f, hf⟩ := get_of (l := m.fns) (i := k) (by omega)
 refine zpn 3 <| zix ad15 ms.length 3 (j : Int) <| zpn 1 ?_
 refine zld (((ad15 : Addr).add (((j : Int)).toNat * 3)).add 1) (vS m.fA m.fns.length m.fc) (rds_get (M12.ro hms.mcells) rfl (i := j) (cs := m.cells) (gm hm) 1 _ rfl) ?_
 refine zpn 1 ?_
 obtain ⟨ad17, had18⟩ := rds_some (M12.ro (hms.mfns hmm)) (cs := f.cells) (i := k) (gm hf)
 intro aC fr
 refine From_ixA (some 32) m.fA ad17 m.fns.length 5 (k : Int) fr (by kernel_rfl) had18 (by omega) (by omega) ?_
 intro aC fr
 revert aC
 refine zpn 1 ?_
 refine zld ((ad17 : Addr).add (((k : Int)).toNat * 5)) (.string f.nm) (rds_get (M12.ro (hms.mfns hmm)) had18 (i := k) (cs := f.cells) (gm hf) 0 _ rfl) ?_
 refine zkp [(0, (vS (some ad15) ms.length mc)), (3, (vS Ak ((chosenTo (nwG (fun m : TMod => m.fns) (fun f : TFn => (f.nm, f.wk)) ms) (ms.flatMap (fun m : TMod => m.fns)) (offG (fun m : TMod => m.fns) ms j + k)).length) ck)), (4, (nV j)), (5, (nV k)), (25, (vS (some ad15) ms.length mc)), (34, (.string f.nm))] ?_
 refine zcl (rkchosen_c ms (some ad15) mc w11 (hms.at_ M12) hml hnf f.nm) ?_
 rintro _ w25 ⟨a1_23, b1_24, rfl, hpk1, M26x⟩
 have M26 := M12.cl M26x
 refine zpn 5 <| zfe <| zsr <| zpn 4 ?_
 obtain ⟨B27, hB27⟩ : ∃ B : Bool, B = ((a1_23 : Int) == (j : Int)) := ⟨_, rfl⟩
 refine zkp [(0, (vS (some ad15) ms.length mc)), (3, (vS Ak ((chosenTo (nwG (fun m : TMod => m.fns) (fun f : TFn => (f.nm, f.wk)) ms) (ms.flatMap (fun m : TMod => m.fns)) (offG (fun m : TMod => m.fns) ms j + k)).length) ck)), (4, (nV j)), (5, (nV k)), (7, (vI b1_24)), (41, (.bool ((a1_23 : Int) == (j : Int))))] ?_
 rw [← hB27]
 have iB27 : B27 = true ↔ ((a1_23 : Int) = (j : Int)) := by rw [hB27]; simp only [beq_iff_eq]
 clear hB27
 intro aC fr
 refine zpk 4 8 [45] fr (news := [(45, (.bool (B27 && ((b1_24 : Int) == (k : Int)))))]) (by cases B27 <;> kernel_rfl) ?_
 intro aC fr
 revert aC
 refine zfe <| zcP (B27 && ((b1_24 : Int) == (k : Int))) (((a1_23 : Int) = (j : Int)) ∧ ((b1_24 : Int) = (k : Int))) (by simp only [Bool.and_eq_true, beq_iff_eq, iB27]) (fun c32 => ?_) (fun c32 => ?_)
 have hcl := chosenTo_len (nw := nwG (fun m : TMod => m.fns) (fun f : TFn => (f.nm, f.wk)) ms) (l := ms.flatMap (fun m : TMod => m.fns)) (i := offG (fun m : TMod => m.fns) ms j + k)
 have hch := chosenTo_yes (flat_get hm hf) ((hpk1.best hm hf rfl).1 c32)
 refine zrg <| zpn 3 <| zix ad15 ms.length 3 (j : Int) <| zpn 1 ?_
 refine zld (((ad15 : Addr).add (((j : Int)).toNat * 3)).add 1) (vS m.fA m.fns.length m.fc) (rds_get (M26.ro hms.mcells) rfl (i := j) (cs := m.cells) (gm hm) 1 _ rfl) ?_
 refine zpn 1 ?_
 obtain ⟨ad33, had34⟩ := rds_some (M26.ro (hms.mfns hmm)) (cs := f.cells) (i := k) (gm hf)
 intro aC fr
 refine From_ixA (some 53) m.fA ad33 m.fns.length 5 (k : Int) fr (by kernel_rfl) had34 (by omega) (by omega) ?_
 intro aC fr
 revert aC
 refine zls ((ad33 : Addr).add (((k : Int)).toNat * 5)) (FC f) (rds_cells (i := k) (M26.ro (hms.mfns hmm)) had34 (gm hf)) ?_
 intro aC fr
 refine zBs 55 22 1 #[(0, (.tmp 54))] 22 fr (e := 45) (size := 5) (zs := [(.string ⟨#[]⟩), (.bool false), (vI 0), (vI 0), (vS none 0 0)]) (vs := [(0, (.agg (FC f).toArray))]) (cs := (FC f)) M26 ?_
 intro b39 w40 hb39 _ M41 _ aC ea fr; clear ea
 replace M41 := M41.nf
 refine zAN 56 (.tmp 46) (.tmp 55) 22 22 fr (e := 45) (size := 5) (bytes := 64) (z := (.agg #[(.string ⟨#[]⟩), (.bool false), (vI 0), (vI 0), (vS none 0 0)])) (A := Ak) (B := (sM b39)) (n := ((chosenTo (nwG (fun m : TMod => m.fns) (fun f : TFn => (f.nm, f.wk)) ms) (ms.flatMap (fun m : TMod => m.fns)) (offG (fun m : TMod => m.fns) ms j + k)).length)) (cap := ck) (m := 1) (cap' := 1) (xs := ((chosenTo (nwG (fun m : TMod => m.fns) (fun f : TFn => (f.nm, f.wk)) ms) (ms.flatMap (fun m : TMod => m.fns)) (offG (fun m : TMod => m.fns) ms j + k)).flatMap TFn.cells)) (news := (FC f)) M41 0 rfl (row_rd (M41.get 1 rfl)) rfl (by simp [Value.oneCell']) (by omega) (by simp only [maxLen]; omega) ((chosenTo (nwG (fun m : TMod => m.fns) (fun f : TFn => (f.nm, f.wk)) ms) (ms.flatMap (fun m : TMod => m.fns)) (offG (fun m : TMod => m.fns) ms j + k + 1)).length) ((chosenTo (nwG (fun m : TMod => m.fns) (fun f : TFn => (f.nm, f.wk)) ms) (ms.flatMap (fun m : TMod => m.fns)) (offG (fun m : TMod => m.fns) ms j + k + 1)).flatMap TFn.cells) (by rw [hch, List.length_append]; rfl) (by rw [hch, List.flatMap_append]; rfl) ?_
 intro A46 c47 w48 M49 _ aC ea fr; clear ea
 replace M49 := M49.nf
 have M52 := M49.od [] 1
 revert aC
 refine zpn 1 <| zfe <| zrg <| zpn 1 <| zar ((k : Int) + 1) <| zkp [(0, (vS (some ad15) ms.length mc)), (3, (vS A46 ((chosenTo (nwG (fun m : TMod => m.fns) (fun f : TFn => (f.nm, f.wk)) ms) (ms.flatMap (fun m : TMod => m.fns)) (offG (fun m : TMod => m.fns) ms j + k + 1)).length) c47)), (4, (nV j)), (23, (vI ((k : Int) + 1)))] ?_
 refine zpn 1 <| zfe ?_
 intro aC fr
 exact ⟨m.fns.length - (k + 1), by omega, k + 1, A46, c47, rfl, fr.kp [0, 3, 4, 5], M52, by omega⟩
 have hcl := chosenTo_len (nw := nwG (fun m : TMod => m.fns) (fun f : TFn => (f.nm, f.wk)) ms) (l := ms.flatMap (fun m : TMod => m.fns)) (i := offG (fun m : TMod => m.fns) ms j + k)
 have hch := chosenTo_no (l := ms.flatMap (fun m : TMod => m.fns)) (Bool.eq_false_iff.2 (fun h => c32 ((hpk1.best hm hf rfl).2 h)))
 refine zsk <| zrg <| zpn 1 <| zar ((k : Int) + 1) <| zpn 1 <| zfe ?_
 have M55 : Mem noS w w25 [.row 45 5 Ak ((chosenTo (nwG (fun m : TMod => m.fns) (fun f : TFn => (f.nm, f.wk)) ms) (ms.flatMap (fun m : TMod => m.fns)) (offG (fun m : TMod => m.fns) ms j + k + 1)).length) ck ((chosenTo (nwG (fun m : TMod => m.fns) (fun f : TFn => (f.nm, f.wk)) ms) (ms.flatMap (fun m : TMod => m.fns)) (offG (fun m : TMod => m.fns) ms j + k + 1)).flatMap TFn.cells)] := M26.cast (by rw [hch])
 intro aC fr
 exact ⟨m.fns.length - (k + 1), by omega, k + 1, Ak, ck, rfl, (by rw [show offG (fun m : TMod => m.fns) ms j + (k + 1) = offG (fun m : TMod => m.fns) ms j + k + 1 from rfl, hch]; exact fr.kp [0, 3, 4, 5]), M55, by omega⟩
 refine zex 2 <| zbh <| zrg <| zpn 1 <| zar ((j : Int) + 1) <| zpn 1 <| zfe ?_
 intro aC fr
 exact ⟨ms.length - (j + 1), by omega, j + 1, Ak, ck, rfl, (by rw [off_succ hm, ← show k = m.fns.length by omega]; exact fr.kp [0, 3, 4]), (M12.cast (by rw [off_succ hm, show k = m.fns.length by omega])), by omega⟩
 refine zex 0 <| zbh <| zsp <| zre <| zo1 (vS Aj ((chosenTo (nwG (fun m : TMod => m.fns) (fun f : TFn => (f.nm, f.wk)) ms) (ms.flatMap (fun m : TMod => m.fns)) (offG (fun m : TMod => m.fns) ms j)).length) cj) ?_
 have he_ := off_end (g := (fun m : TMod => m.fns)) (show ms.length ≤ j by omega); rw [he_] at M5 ⊢; exact ⟨Aj, cj, rfl, M5⟩
theorem rkdata_c (ms : List TMod) (mA : Option Addr) (mc : Nat) (w : World) (hms : RO noS w (.mods mA ms)) (hml : ms.length ≤ 1000) (hnf : (ms.flatMap (fun m : TMod => m.dats)).length ≤ 1000) (nm : ByteArray) :
    Calls Try.prog 59 #[(vS mA ms.length mc), (.string nm)] w (Ret fun v w' => ∃ a b, v = .tuple #[.int .i64 a, .int .i64 b] ∧ Pk (fun m : TMod => m.dats) (fun f : FDat => (f.nm, f.wk)) ms nm ((ms.flatMap (fun m : TMod => m.dats)).length) a b ∧ Mem noS w w' []) := by
 refine zen 63 [(vS mA ms.length mc), (.string nm)] Try.func59 ?_
 have hM := Mem.init w
 refine zsp <| zsp <| zsq <| zsp <| zbk 0 ?_
 intro aC fr
 refine zlp (fun n_ a_ w_ => ∃ (j : Nat) (ai : Int) (bi : Int), n_ = ms.length - j ∧ Fr a_ 63 [(0, (vS mA ms.length mc)), (1, (.string nm)), (6, (vI ai)), (7, (vI bi)), (8, (nV j))] ∧ Mem noS w w_ [] ∧ (j ≤ ms.length) ∧ (Pk (fun m : TMod => m.dats) (fun f : FDat => (f.nm, f.wk)) ms nm (offG (fun m : TMod => m.dats) ms j) ai bi)) (n := _) ⟨0, (-1), (-1), rfl, fr.kp [0, 1, 6, 7, 8], hM, Nat.zero_le _, Pk.start⟩ ?_
 clear fr aC hM; rintro n aC w3 ⟨j, ai, bi, rfl, fr, M4, hj, hp⟩
 revert aC
 refine zsq <| zsp <| zcD (((j : Int) : Int) < ((ms.length : Nat) : Int)) (fun c7 => ?_) (fun c7 => ?_)
 refine zsk <| zsq <| zbk 1 <| zsr ?_
 obtain ⟨m, hm⟩ := get_of (l := ms) (i := j) (by omega)
 have hmm := List.mem_of_getElem? hm
 have hle := off_le (g := (fun m : TMod => m.dats)) hm
 refine zpn 1 <| zfe <| zbk 2 ?_
 intro aC fr
 refine zlp (fun n_ a_ w_ => ∃ (k : Nat) (ak : Int) (bk : Int), n_ = m.dats.length - k ∧ Fr a_ 63 [(0, (vS mA ms.length mc)), (1, (.string nm)), (6, (vI ak)), (7, (vI bk)), (8, (nV j)), (9, (nV k))] ∧ Mem noS w w_ [] ∧ (k ≤ m.dats.length) ∧ (Pk (fun m : TMod => m.dats) (fun f : FDat => (f.nm, f.wk)) ms nm (offG (fun m : TMod => m.dats) ms j + k) ak bk)) (n := _) ⟨0, ai, bi, rfl, fr.kp [0, 1, 6, 7, 8, 9], M4, Nat.zero_le _, hp⟩ ?_
 clear fr aC M4; rintro n aC w10 ⟨k, ak, bk, rfl, fr, M11, hk, hpk⟩
 revert aC
 refine zsq <| zsr <| zpn 3 ?_
 obtain ⟨ad14, rfl⟩ := rds_some (M11.ro hms.mcells) (cs := m.cells) (i := j) (gm hm)
 refine zix ad14 ms.length 3 (j : Int) <| zpn 1 ?_
 refine zld (((ad14 : Addr).add (((j : Int)).toNat * 3)).add 2) (vS m.dA m.dats.length m.dc) (rds_get (M11.ro hms.mcells) rfl (i := j) (cs := m.cells) (gm hm) 2 _ rfl) ?_
 refine zpn 2 <| zfe <| zcD (((k : Int) : Int) < ((m.dats.length : Nat) : Int)) (fun c15 => ?_) (fun c15 => ?_)
 refine zsk <| zsq <| zbk 3 <| zsr ?_
 obtain ⟨f, hf⟩ := get_of (l := m.dats) (i := k) (by omega)
 refine zpn 2 <| zix ad14 ms.length 3 (j : Int) <| zpn 1 ?_
 refine zld (((ad14 : Addr).add (((j : Int)).toNat * 3)).add 2) (vS m.dA m.dats.length m.dc) (rds_get (M11.ro hms.mcells) rfl (i := j) (cs := m.cells) (gm hm) 2 _ rfl) ?_
 refine zpn 1 ?_
 obtain ⟨ad16, had17⟩ := rds_some (M11.ro (hms.mdats hmm)) (cs := f.cells) (i := k) (gm hf)
 intro aC fr
 refine From_ixA (some 33) m.dA ad16 m.dats.length 4 (k : Int) fr (by kernel_rfl) had17 (by omega) (by omega) ?_
 intro aC fr
 revert aC
 refine zls ((ad16 : Addr).add (((k : Int)).toNat * 4)) (DC f) (rds_cells (i := k) (M11.ro (hms.mdats hmm)) had17 (gm hf)) ?_
 refine zkp [(0, (vS (some ad14) ms.length mc)), (1, (.string nm)), (6, (vI ak)), (7, (vI bk)), (8, (nV j)), (9, (nV k)), (34, (.agg (DC f).toArray))] <| zal M11 59 [(.string ⟨#[]⟩), (.bool false), (vS none 0 0), (vS none 0 0)] fun b22 w23 hb22 M24 => ?_
 replace M24 := M24.nf
 refine zss M24 0 (DC f) rfl fun w25 M26 => ?_
 replace M26 := M26.nf
 refine zfe <| zsr <| zpn 1 <| zld ⟨b22, 0, none⟩ (.string f.nm) (blk_cell (M26.get 0 rfl) rfl) <| zpn 3 ?_
 obtain ⟨B27, hB27⟩ : ∃ B : Bool, B = ((f.nm : ByteArray).toList == (nm : ByteArray).toList) := ⟨_, rfl⟩
 refine zkp [(0, (vS (some ad14) ms.length mc)), (1, (.string nm)), (6, (vI ak)), (7, (vI bk)), (8, (nV j)), (9, (nV k)), (10, (pT b22 0)), (39, (.bool ((f.nm : ByteArray).toList == (nm : ByteArray).toList)))] ?_
 rw [← hB27]
 have iB27 : B27 = true ↔ ((f.nm).toList = (nm).toList) := by rw [hB27]; simp only [beq_iff_eq]
 clear hB27
 intro aC fr
 refine zpk 3 8 [42] fr (news := [(42, (cond B27 (.bool (decide ((ak : Int) < 0))) undef))]) (by cases B27 <;> kernel_rfl) ?_
 intro aC fr
 obtain ⟨B32, hB32⟩ : ∃ B : Bool, B = decide ((ak : Int) < 0) := ⟨_, rfl⟩
 revert aC
 refine zkp [(0, (vS (some ad14) ms.length mc)), (1, (.string nm)), (6, (vI ak)), (7, (vI bk)), (8, (nV j)), (9, (nV k)), (10, (pT b22 0)), (39, (.bool B27)), (42, (cond B27 (.bool (decide ((ak : Int) < 0))) undef))] ?_
 rw [← hB32]
 have iB32 : B32 = true ↔ ((ak : Int) < 0) := by rw [hB32]; simp only [decide_eq_true_eq]
 clear hB32
 intro aC fr
 refine zpk 2 10 [43, 44] fr (news := [(43, (cond (B27 && !B32) (vS (some ad14) ms.length mc) undef)), (44, (cond (B27 && !B32) (vI ak) undef))]) (by cases B27 <;> cases B32 <;> kernel_rfl) ?_
 intro aC fr
 cases B27
 have c27 : ¬ ((f.nm).toList = (nm).toList) := (fun h => Bool.noConfusion (iB27.2 h) : ¬ ((f.nm).toList = (nm).toList))
 revert aC
 refine zpn 14 <| zfe <| zcF <| zsk <| zrg <| zpn 1 <| zar ((k : Int) + 1) <| zpn 1 <| zfe ?_
 intro aC fr
 exact ⟨m.dats.length - (k + 1), by omega, k + 1, ak, bk, rfl, fr.kp [0, 1, 6, 7, 8, 9], (M26.tk 0), by omega, hpk.skip (flat_get hm hf) c27⟩
 have c27 : ((f.nm).toList = (nm).toList) := iB27.1 rfl
 cases B32
 have c32 : ¬ ((ak : Int) < 0) := (fun h => Bool.noConfusion (iB32.2 h) : ¬ ((ak : Int) < 0))
 obtain ⟨p, q, m2, f2, rfl, rfl, hm2, hf2⟩ := hpk.got (by omega)
 have hm2m := List.mem_of_getElem? hm2
 have hpl := (List.getElem?_eq_some_iff.1 hm2).1
 have hql := (List.getElem?_eq_some_iff.1 hf2).1
 revert aC
 refine zix ad14 ms.length 3 (p : Int) <| zpn 1 ?_
 refine zld (((ad14 : Addr).add (((p : Int)).toNat * 3)).add 2) (vS m2.dA m2.dats.length m2.dc) (rds_get (M26.ro hms.mcells) rfl (i := p) (cs := m2.cells) (gm hm2) 2 _ rfl) ?_
 refine zpn 1 ?_
 obtain ⟨ad39, had40⟩ := rds_some (M26.ro (hms.mdats hm2m)) (cs := f2.cells) (i := q) (gm hf2)
 intro aC fr
 refine From_ixA (some 49) m2.dA ad39 m2.dats.length 4 (q : Int) fr (by kernel_rfl) had40 (by omega) (by omega) ?_
 intro aC fr
 revert aC
 refine zpn 1 ?_
 refine zld (((ad39 : Addr).add (((q : Int)).toNat * 4)).add 1) (.bool f2.wk) (rds_get (M26.ro (hms.mdats hm2m)) had40 (i := q) (cs := f2.cells) (gm hf2) 1 _ rfl) ?_
 refine zpn 1 ?_
 obtain ⟨B45, hB45⟩ : ∃ B : Bool, B = f2.wk := ⟨_, rfl⟩
 refine zkp [(0, (vS (some ad14) ms.length mc)), (1, (.string nm)), (6, (nV p)), (7, (nV q)), (8, (nV j)), (9, (nV k)), (10, (pT b22 0)), (39, (.bool true)), (42, (.bool false)), (52, (.bool f2.wk))] ?_
 rw [← hB45]
 have iB45 : B45 = true ↔ (f2.wk = true) := by rw [hB45]
 clear hB45
 intro aC fr
 refine zpk 1 19 [53] fr (news := [(53, (cond B45 (pT b22 1) undef))]) (by cases B45 <;> kernel_rfl) ?_
 intro aC fr
 refine From_either (B := B45) (d := (some 54)) (.bool f.wk) fr (by cases B45 <;> kernel_rfl) (fun hB hh => ?_) ?_
 cases B45 <;> try exact absurd hB (by decide)
 have c45 : (f2.wk = true) := iB45.1 rfl
 exact From_ld (some 54) ⟨b22, 1, none⟩ fr (by kernel_rfl) (.bool f.wk) (blk_cell (M26.get 0 rfl) rfl) hh
 intro aC fr
 refine zpk 4 24 [56, 57, 58] fr (news := [(56, (.bool (B45 && (!f.wk)))), (57, (.bool (B45 && (!f.wk)))), (58, (.bool (B45 && (!f.wk))))]) (by cases B45 <;> kernel_rfl) ?_
 intro aC fr
 revert aC
 refine zfe <| zcP (B45 && (!f.wk)) ((f2.wk = true) ∧ (¬ (f.wk = true))) (by simp only [Bool.and_eq_true, notT, iB45]) (fun c54 => ?_) (fun c54 => ?_)
 refine zrp <| zrg <| zpn 1 <| zar ((k : Int) + 1) <| zpn 1 <| zfe ?_
 intro aC fr
 exact ⟨m.dats.length - (k + 1), by omega, k + 1, (j : Int), (k : Int), rfl, fr.kp [0, 1, 6, 7, 8, 9], (M26.tk 0), by omega, hpk.take2 hm2 hf2 hm hf c27 c54.1 (Bool.eq_false_iff.2 c54.2)⟩
 refine zsk <| zrg <| zpn 1 <| zar ((k : Int) + 1) <| zpn 1 <| zfe ?_
 intro aC fr
 exact ⟨m.dats.length - (k + 1), by omega, k + 1, (p : Int), (q : Int), rfl, fr.kp [0, 1, 6, 7, 8, 9], (M26.tk 0), by omega, hpk.keep hm2 hf2 (flat_get hm hf) c27 (keep_of c54)⟩
 have c32 : ((ak : Int) < 0) := iB32.1 rfl
 revert aC
 refine zpn 14 <| zfe <| zcT <| zrp <| zrg <| zpn 1 <| zar ((k : Int) + 1) <| zpn 1 <| zfe ?_
 intro aC fr
 exact ⟨m.dats.length - (k + 1), by omega, k + 1, (j : Int), (k : Int), rfl, fr.kp [0, 1, 6, 7, 8, 9], (M26.tk 0), by omega, hpk.take1 c32 hm hf c27⟩
 refine zex 2 <| zbh <| zrg <| zpn 1 <| zar ((j : Int) + 1) <| zpn 1 <| zfe ?_
 intro aC fr
 exact ⟨ms.length - (j + 1), by omega, j + 1, ak, bk, rfl, fr.kp [0, 1, 6, 7, 8], M11, by omega, (by rw [off_succ hm]; exact (show k = m.dats.length by omega) ▸ hpk)⟩
 refine zex 0 <| zbh <| zsp <| zre <| zo2 (vI ai) (vI bi) ?_
 exact ⟨ai, bi, rfl, off_end (g := (fun m : TMod => m.dats)) (show ms.length ≤ j by omega) ▸ hp, M4⟩
theorem rDatas_c (ms : List TMod) (mA : Option Addr) (mc : Nat) (w : World) (hms : RO noS w (.mods mA ms)) (hml : ms.length ≤ 1000) (hnf : (ms.flatMap (fun m : TMod => m.dats)).length ≤ 1000) :
    Calls Try.prog 38 #[(vS mA ms.length mc)] w (Ret fun v w' => ∃ A c, v = .slice A (csD ms).length c ∧ Mem noS w w' [.row 59 4 A (csD ms).length c ((csD ms).flatMap FDat.cells)]) := by
 refine zen 58 [(vS mA ms.length mc)] Try.func38 ?_
 have hM := Mem.init w
 refine zsp <| zsp <| zsq <| zsp <| zbk 0 ?_
 have M1 := hM.cl (Mem.nilrow _ 59 4)
 clear hM
 intro aC fr
 refine zlp (fun n_ a_ w_ => ∃ (j : Nat) (Aj : Option Addr) (cj : Nat), n_ = ms.length - j ∧ Fr a_ 58 [(0, (vS mA ms.length mc)), (3, (vS Aj ((chosenTo (nwG (fun m : TMod => m.dats) (fun f : FDat => (f.nm, f.wk)) ms) (ms.flatMap (fun m : TMod => m.dats)) (offG (fun m : TMod => m.dats) ms j)).length) cj)), (4, (nV j))] ∧ Mem noS w w_ [.row 59 4 Aj ((chosenTo (nwG (fun m : TMod => m.dats) (fun f : FDat => (f.nm, f.wk)) ms) (ms.flatMap (fun m : TMod => m.dats)) (offG (fun m : TMod => m.dats) ms j)).length) cj ((chosenTo (nwG (fun m : TMod => m.dats) (fun f : FDat => (f.nm, f.wk)) ms) (ms.flatMap (fun m : TMod => m.dats)) (offG (fun m : TMod => m.dats) ms j)).flatMap FDat.cells)] ∧ (j ≤ ms.length)) (n := _) ⟨0, none, 0, rfl, fr.kp [0, 3, 4], M1, Nat.zero_le _⟩ ?_
 clear fr aC M1; rintro n aC w4 ⟨j, Aj, cj, rfl, fr, M5, hj⟩
 revert aC
 refine zsq <| zsp <| zcD (((j : Int) : Int) < ((ms.length : Nat) : Int)) (fun c8 => ?_) (fun c8 => ?_)
 refine zsk <| zsq <| zbk 1 <| zsr ?_
 obtain ⟨m, hm⟩ := get_of (l := ms) (i := j) (by omega)
 have hmm := List.mem_of_getElem? hm
 have hle := off_le (g := (fun m : TMod => m.dats)) hm
 refine zpn 1 <| zfe <| zbk 2 ?_
 intro aC fr
 refine zlp (fun n_ a_ w_ => ∃ (k : Nat) (Ak : Option Addr) (ck : Nat), n_ = m.dats.length - k ∧ Fr a_ 58 [(0, (vS mA ms.length mc)), (3, (vS Ak ((chosenTo (nwG (fun m : TMod => m.dats) (fun f : FDat => (f.nm, f.wk)) ms) (ms.flatMap (fun m : TMod => m.dats)) (offG (fun m : TMod => m.dats) ms j + k)).length) ck)), (4, (nV j)), (5, (nV k))] ∧ Mem noS w w_ [.row 59 4 Ak ((chosenTo (nwG (fun m : TMod => m.dats) (fun f : FDat => (f.nm, f.wk)) ms) (ms.flatMap (fun m : TMod => m.dats)) (offG (fun m : TMod => m.dats) ms j + k)).length) ck ((chosenTo (nwG (fun m : TMod => m.dats) (fun f : FDat => (f.nm, f.wk)) ms) (ms.flatMap (fun m : TMod => m.dats)) (offG (fun m : TMod => m.dats) ms j + k)).flatMap FDat.cells)] ∧ (k ≤ m.dats.length)) (n := _) ⟨0, Aj, cj, rfl, fr.kp [0, 3, 4, 5], M5, Nat.zero_le _⟩ ?_
 clear fr aC M5; rintro n aC w11 ⟨k, Ak, ck, rfl, fr, M12, hk⟩
 revert aC
 refine zsq <| zsr <| zpn 3 ?_
 obtain ⟨ad15, rfl⟩ := rds_some (M12.ro hms.mcells) (cs := m.cells) (i := j) (gm hm)
 refine zix ad15 ms.length 3 (j : Int) <| zpn 1 ?_
 refine zld (((ad15 : Addr).add (((j : Int)).toNat * 3)).add 2) (vS m.dA m.dats.length m.dc) (rds_get (M12.ro hms.mcells) rfl (i := j) (cs := m.cells) (gm hm) 2 _ rfl) ?_
 refine zpn 2 <| zfe <| zcD (((k : Int) : Int) < ((m.dats.length : Nat) : Int)) (fun c16 => ?_) (fun c16 => ?_)
 refine zsk <| zsq <| zbk 3 <| zsr ?_
 obtain ⟨f, hf⟩ := get_of (l := m.dats) (i := k) (by omega)
 refine zpn 3 <| zix ad15 ms.length 3 (j : Int) <| zpn 1 ?_
 refine zld (((ad15 : Addr).add (((j : Int)).toNat * 3)).add 2) (vS m.dA m.dats.length m.dc) (rds_get (M12.ro hms.mcells) rfl (i := j) (cs := m.cells) (gm hm) 2 _ rfl) ?_
 refine zpn 1 ?_
 obtain ⟨ad17, had18⟩ := rds_some (M12.ro (hms.mdats hmm)) (cs := f.cells) (i := k) (gm hf)
 intro aC fr
 refine From_ixA (some 32) m.dA ad17 m.dats.length 4 (k : Int) fr (by kernel_rfl) had18 (by omega) (by omega) ?_
 intro aC fr
 revert aC
 refine zpn 1 ?_
 refine zld ((ad17 : Addr).add (((k : Int)).toNat * 4)) (.string f.nm) (rds_get (M12.ro (hms.mdats hmm)) had18 (i := k) (cs := f.cells) (gm hf) 0 _ rfl) ?_
 refine zkp [(0, (vS (some ad15) ms.length mc)), (3, (vS Ak ((chosenTo (nwG (fun m : TMod => m.dats) (fun f : FDat => (f.nm, f.wk)) ms) (ms.flatMap (fun m : TMod => m.dats)) (offG (fun m : TMod => m.dats) ms j + k)).length) ck)), (4, (nV j)), (5, (nV k)), (25, (vS (some ad15) ms.length mc)), (34, (.string f.nm))] ?_
 refine zcl (rkdata_c ms (some ad15) mc w11 (hms.at_ M12) hml hnf f.nm) ?_
 rintro _ w25 ⟨a1_23, b1_24, rfl, hpk1, M26x⟩
 have M26 := M12.cl M26x
 refine zpn 5 <| zfe <| zsr <| zpn 4 ?_
 obtain ⟨B27, hB27⟩ : ∃ B : Bool, B = ((a1_23 : Int) == (j : Int)) := ⟨_, rfl⟩
 refine zkp [(0, (vS (some ad15) ms.length mc)), (3, (vS Ak ((chosenTo (nwG (fun m : TMod => m.dats) (fun f : FDat => (f.nm, f.wk)) ms) (ms.flatMap (fun m : TMod => m.dats)) (offG (fun m : TMod => m.dats) ms j + k)).length) ck)), (4, (nV j)), (5, (nV k)), (7, (vI b1_24)), (41, (.bool ((a1_23 : Int) == (j : Int))))] ?_
 rw [← hB27]
 have iB27 : B27 = true ↔ ((a1_23 : Int) = (j : Int)) := by rw [hB27]; simp only [beq_iff_eq]
 clear hB27
 intro aC fr
 refine zpk 4 8 [45] fr (news := [(45, (.bool (B27 && ((b1_24 : Int) == (k : Int)))))]) (by cases B27 <;> kernel_rfl) ?_
 intro aC fr
 revert aC
 refine zfe <| zcP (B27 && ((b1_24 : Int) == (k : Int))) (((a1_23 : Int) = (j : Int)) ∧ ((b1_24 : Int) = (k : Int))) (by simp only [Bool.and_eq_true, beq_iff_eq, iB27]) (fun c32 => ?_) (fun c32 => ?_)
 have hcl := chosenTo_len (nw := nwG (fun m : TMod => m.dats) (fun f : FDat => (f.nm, f.wk)) ms) (l := ms.flatMap (fun m : TMod => m.dats)) (i := offG (fun m : TMod => m.dats) ms j + k)
 have hch := chosenTo_yes (flat_get hm hf) ((hpk1.best hm hf rfl).1 c32)
 refine zrg <| zpn 3 <| zix ad15 ms.length 3 (j : Int) <| zpn 1 ?_
 refine zld (((ad15 : Addr).add (((j : Int)).toNat * 3)).add 2) (vS m.dA m.dats.length m.dc) (rds_get (M26.ro hms.mcells) rfl (i := j) (cs := m.cells) (gm hm) 2 _ rfl) ?_
 refine zpn 1 ?_
 obtain ⟨ad33, had34⟩ := rds_some (M26.ro (hms.mdats hmm)) (cs := f.cells) (i := k) (gm hf)
 intro aC fr
 refine From_ixA (some 53) m.dA ad33 m.dats.length 4 (k : Int) fr (by kernel_rfl) had34 (by omega) (by omega) ?_
 intro aC fr
 revert aC
 refine zls ((ad33 : Addr).add (((k : Int)).toNat * 4)) (DC f) (rds_cells (i := k) (M26.ro (hms.mdats hmm)) had34 (gm hf)) ?_
 intro aC fr
 refine zBs 55 23 1 #[(0, (.tmp 54))] 23 fr (e := 59) (size := 4) (zs := [(.string ⟨#[]⟩), (.bool false), (vS none 0 0), (vS none 0 0)]) (vs := [(0, (.agg (DC f).toArray))]) (cs := (DC f)) M26 ?_
 intro b39 w40 hb39 _ M41 _ aC ea fr; clear ea
 replace M41 := M41.nf
 refine zAN 56 (.tmp 46) (.tmp 55) 23 23 fr (e := 59) (size := 4) (bytes := 72) (z := (.agg #[(.string ⟨#[]⟩), (.bool false), (vS none 0 0), (vS none 0 0)])) (A := Ak) (B := (sM b39)) (n := ((chosenTo (nwG (fun m : TMod => m.dats) (fun f : FDat => (f.nm, f.wk)) ms) (ms.flatMap (fun m : TMod => m.dats)) (offG (fun m : TMod => m.dats) ms j + k)).length)) (cap := ck) (m := 1) (cap' := 1) (xs := ((chosenTo (nwG (fun m : TMod => m.dats) (fun f : FDat => (f.nm, f.wk)) ms) (ms.flatMap (fun m : TMod => m.dats)) (offG (fun m : TMod => m.dats) ms j + k)).flatMap FDat.cells)) (news := (DC f)) M41 0 rfl (row_rd (M41.get 1 rfl)) rfl (by simp [Value.oneCell']) (by omega) (by simp only [maxLen]; omega) ((chosenTo (nwG (fun m : TMod => m.dats) (fun f : FDat => (f.nm, f.wk)) ms) (ms.flatMap (fun m : TMod => m.dats)) (offG (fun m : TMod => m.dats) ms j + k + 1)).length) ((chosenTo (nwG (fun m : TMod => m.dats) (fun f : FDat => (f.nm, f.wk)) ms) (ms.flatMap (fun m : TMod => m.dats)) (offG (fun m : TMod => m.dats) ms j + k + 1)).flatMap FDat.cells) (by rw [hch, List.length_append]; rfl) (by rw [hch, List.flatMap_append]; rfl) ?_
 intro A46 c47 w48 M49 _ aC ea fr; clear ea
 replace M49 := M49.nf
 have M52 := M49.od [] 1
 revert aC
 refine zpn 1 <| zfe <| zrg <| zpn 1 <| zar ((k : Int) + 1) <| zkp [(0, (vS (some ad15) ms.length mc)), (3, (vS A46 ((chosenTo (nwG (fun m : TMod => m.dats) (fun f : FDat => (f.nm, f.wk)) ms) (ms.flatMap (fun m : TMod => m.dats)) (offG (fun m : TMod => m.dats) ms j + k + 1)).length) c47)), (4, (nV j)), (23, (vI ((k : Int) + 1)))] ?_
 refine zpn 1 <| zfe ?_
 intro aC fr
 exact ⟨m.dats.length - (k + 1), by omega, k + 1, A46, c47, rfl, fr.kp [0, 3, 4, 5], M52, by omega⟩
 have hcl := chosenTo_len (nw := nwG (fun m : TMod => m.dats) (fun f : FDat => (f.nm, f.wk)) ms) (l := ms.flatMap (fun m : TMod => m.dats)) (i := offG (fun m : TMod => m.dats) ms j + k)
 have hch := chosenTo_no (l := ms.flatMap (fun m : TMod => m.dats)) (Bool.eq_false_iff.2 (fun h => c32 ((hpk1.best hm hf rfl).2 h)))
 refine zsk <| zrg <| zpn 1 <| zar ((k : Int) + 1) <| zpn 1 <| zfe ?_
 have M55 : Mem noS w w25 [.row 59 4 Ak ((chosenTo (nwG (fun m : TMod => m.dats) (fun f : FDat => (f.nm, f.wk)) ms) (ms.flatMap (fun m : TMod => m.dats)) (offG (fun m : TMod => m.dats) ms j + k + 1)).length) ck ((chosenTo (nwG (fun m : TMod => m.dats) (fun f : FDat => (f.nm, f.wk)) ms) (ms.flatMap (fun m : TMod => m.dats)) (offG (fun m : TMod => m.dats) ms j + k + 1)).flatMap FDat.cells)] := M26.cast (by rw [hch])
 intro aC fr
 exact ⟨m.dats.length - (k + 1), by omega, k + 1, Ak, ck, rfl, (by rw [show offG (fun m : TMod => m.dats) ms j + (k + 1) = offG (fun m : TMod => m.dats) ms j + k + 1 from rfl, hch]; exact fr.kp [0, 3, 4, 5]), M55, by omega⟩
 refine zex 2 <| zbh <| zrg <| zpn 1 <| zar ((j : Int) + 1) <| zpn 1 <| zfe ?_
 intro aC fr
 exact ⟨ms.length - (j + 1), by omega, j + 1, Ak, ck, rfl, (by rw [off_succ hm, ← show k = m.dats.length by omega]; exact fr.kp [0, 3, 4]), (M12.cast (by rw [off_succ hm, show k = m.dats.length by omega])), by omega⟩
 refine zex 0 <| zbh <| zsp <| zre <| zo1 (vS Aj ((chosenTo (nwG (fun m : TMod => m.dats) (fun f : FDat => (f.nm, f.wk)) ms) (ms.flatMap (fun m : TMod => m.dats)) (offG (fun m : TMod => m.dats) ms j)).length) cj) ?_
 have he_ := off_end (g := (fun m : TMod => m.dats)) (show ms.length ≤ j by omega); rw [he_] at M5 ⊢; exact ⟨Aj, cj, rfl, M5⟩
end Go.Proofs.Ytdcgcjibgihbbaa
namespace Go.Proofs.Ytdcgcjibgihbbaa
open Go.Mor
theorem rendS_c (b : Nat) (c0_ c1_ c2_ c3_ c4_ c5_ c6_ c7_ c8_ c9_ c11_ c12_ : Value) (k c : Int) (w : World) (hR : (Res.blk b 73 [c0_, c1_, c2_, c3_, c4_, c5_, c6_, c7_, c8_, c9_, (.bool false), c11_, c12_]).holds w) :
    Calls Try.prog 41 #[(pT b 0), (vI k), (vI c)] w (Ret fun v w' => v = .tuple #[] ∧ Mem (Res.blk b 73 [c0_, c1_, c2_, c3_, c4_, c5_, c6_, c7_, c8_, c9_, (.bool false), c11_, c12_]).fp w w' [.blk b 73 [c0_, c1_, c2_, c3_, c4_, c5_, .int .i64 k, .int .i64 c, c8_, c9_, .bool true, c11_, c12_]]) := by
 refine zen 24 [(pT b 0), (vI k), (vI c)] Try.func41 ?_
 have hM := Mem.unpkB hR
 refine zsr <| zpn 3 <| zld ⟨b, 10, none⟩ (.bool false) (blk_cell (hM.get 0 rfl) rfl) <| zpn 1 <| zfe <| zcT <| zsr <| zpn 3 <| zsb (ho := (by simp)) hM 0 10 (.bool true) rfl fun w1 M2 => ?_
 replace M2 := M2.nf
 clear hM
 refine zfe <| zsr <| zpn 5 <| zsb (ho := (by simp)) M2 0 6 (vI k) rfl fun w3 M4 => ?_
 replace M4 := M4.nf
 refine zfe <| zrg <| zpn 5 <| zsb (ho := (by simp)) M4 0 7 (vI c) rfl fun w5 M6 => ?_
 replace M6 := M6.nf
 refine zfe <| zo0 ?_
 exact ⟨rfl, M6⟩
theorem rplaceS_c (b : Nat) (ds : List FDat) (dA : Option Addr) (dc : Nat) (pA : Option Addr) (pc : Nat) (c2_ c3_ c4_ c5_ c6_ c7_ c8_ c9_ c10_ c11_ c12_ : Value) (nm : ByteArray) (w : World) (hRb : RO noS w (.blk b 73 [(vS dA ds.length dc), (vS pA ds.length pc), c2_, c3_, c4_, c5_, c6_, c7_, c8_, c9_, c10_, c11_, c12_])) (hds : RO noS w (.rds dA 4 (ds.map FDat.cells))) (hpl : RO noS w (.rd pA (ints (plcs ds ds.length)))) (hnf : ds.length ≤ 1000000) :
    Calls Try.prog 58 #[(pT b 0), (.string nm)] w (Ret fun v w' => v = .int .i64 ((lkp (dataTo ds ds.length) nm).getD 0) ∧ Mem noS w w' []) := by
 refine zen 32 [(pT b 0), (.string nm)] Try.func58 ?_
 have hM := Mem.init w
 refine zsp <| zsq <| zsp <| zbk 0 ?_
 intro aC fr
 refine zlp (fun n_ a_ w_ => ∃ (j : Nat), n_ = ds.length - j ∧ Fr a_ 32 [(0, (pT b 0)), (1, (.string nm)), (5, (nV j))] ∧ Mem noS w w_ [] ∧ (j ≤ ds.length) ∧ (NoK FDat.nm ds nm j)) (n := _) ⟨0, rfl, fr.kp [0, 1, 5], hM, Nat.zero_le _, NoK.zero⟩ ?_
 clear fr aC hM; rintro n aC w3 ⟨j, rfl, fr, M4, hj, hno⟩
 revert aC
 refine zsq <| zsr <| zpn 4 <| zld ⟨b, 0, none⟩ (vS dA ds.length dc) (blk_cell (M4.ro hRb) rfl) <| zpn 2 <| zfe <| zcD (((j : Int) : Int) < ((ds.length : Nat) : Int)) (fun c7 => ?_) (fun c7 => ?_)
 refine zsk <| zsq <| zbk 1 <| zsr ?_
 obtain ⟨d, hd⟩ := get_of (l := ds) (i := j) (by omega)
 refine zpn 3 <| zld ⟨b, 0, none⟩ (vS dA ds.length dc) (blk_cell (M4.ro hRb) rfl) <| zpn 1 ?_
 obtain ⟨ad8, rfl⟩ := rds_some (M4.ro hds) (cs := d.cells) (i := j) (gm hd)
 refine zix ad8 ds.length 4 (j : Int) <| zpn 1 ?_
 refine zld ((ad8 : Addr).add (((j : Int)).toNat * 4)) (.string d.nm) (rds_get (M4.ro hds) rfl (i := j) (cs := d.cells) (gm hd) 0 _ rfl) ?_
 refine zpn 2 <| zfe <| zcP ((d.nm : ByteArray).toList == (nm : ByteArray).toList) ((d.nm).toList = (nm).toList) (by simp only [beq_iff_eq]) (fun c9 => ?_) (fun c9 => ?_)
 refine zsr <| zpn 3 <| zld ⟨b, 1, none⟩ (vS pA ds.length pc) (blk_cell (M4.ro hRb) rfl) <| zkp [(5, (nV j)), (28, (vS pA ds.length pc))] <| zpn 1 ?_
 obtain ⟨ad10, rfl⟩ := rd_some (M4.ro hpl) (by rw [ints_len, plcs_len]; omega)
 refine zix ad10 ds.length 1 (j : Int) <| zld ((ad10 : Addr).add (((j : Int)).toNat * 1)) (vI (nextTo ds j : Int)) (rd_at (M4.ro hpl) rfl (plcs_get (by omega))) <| zpn 1 <| zfe <| zre <| zbr <| zbr <| zo1 (vI (nextTo ds j : Int)) ?_
 exact ⟨by rw [dat_at hd c9 hno]; rfl, M4⟩
 refine zsk <| zrg <| zpn 1 <| zar ((j : Int) + 1) <| zkp [(0, (pT b 0)), (1, (.string nm)), (14, (vI ((j : Int) + 1)))] <| zpn 1 <| zfe ?_
 intro aC fr
 exact ⟨ds.length - (j + 1), by omega, j + 1, rfl, fr.kp [0, 1, 5], M4, by omega, hno.next hd c9⟩
 refine zex 0 <| zbh <| zsr ?_
 obtain rfl : j = ds.length := by omega
 refine zpn 1 <| zfe <| zre <| zo1 (vI 0) ?_
 exact ⟨by rw [dat_none hno]; rfl, M4⟩
set_option maxHeartbeats 4000000 in
theorem rlay_c (ds : List FDat) (dA : Option Addr) (dc : Nat) (cs : List TFn) (nA : Option Addr) (nc : Nat) (mem : Int) (inp : List Int) (iA : Option Addr) (ic : Nat) (fuel : Int) (w : World) (hds : RO noS w (.rds dA 4 (ds.map FDat.cells))) (hpw : ∀ d, d ∈ ds → RO noS w (.rd d.wA (ints d.words))) (hpr : ∀ d, d ∈ ds → RO noS w (.rds d.rA 2 (d.refs.map refCells))) (hn : RO noS w (.rd nA (cs.map fun f => Value.string f.nm))) (hw : ∀ d, d ∈ ds → d.WF) (hnd : ds.length ≤ 1000) (hnc : cs.length ≤ 1000) (hnx : nextTo ds ds.length ≤ 1000000000) (hm1 : 1 ≤ mem) (hm2 : mem ≤ 262144) :
    Calls Try.prog 37 #[(vS dA ds.length dc), (vS nA cs.length nc), (vI mem), (vS iA inp.length ic), (vI fuel)] w (Ret fun v w' => ∃ pA pc, (mem.toNat < nextTo ds ds.length ∧ v = .agg #[(vS dA ds.length dc), (vS pA ds.length pc), (vS none 0 0), (vI (nextTo ds ds.length : Int)), (vS iA inp.length ic), (vI 0), (vI 3), (vI 0), (vS none 0 0), (vI 0), (.bool true), (vI (max 0 (min fuel 4194304))), (vI 0)] ∧ Mem noS w w' [.row 3 1 pA ds.length pc (ints (plcs ds ds.length))]) ∨ (nextTo ds ds.length ≤ mem.toNat ∧ ∃ mG, v = .agg #[(vS dA ds.length dc), (vS pA ds.length pc), (vS (sM mG) mem.toNat mem.toNat), (vI (nextTo ds ds.length : Int)), (vS iA inp.length ic), (vI 0), (vI 0), (vI 0), (vS none 0 0), (vI 0), (.bool false), (vI (max 0 (min fuel 4194304))), (vI 0)] ∧ Mem noS w w' [.row 3 1 pA ds.length pc (ints (plcs ds ds.length)), .row 2 1 (sM mG) mem.toNat mem.toNat (ints (lyT (nmsTo cs cs.length) (dataTo ds ds.length) mem.toNat ds))])) := by
 refine zen 163 [(vS dA ds.length dc), (vS nA cs.length nc), (vI mem), (vS iA inp.length ic), (vI fuel)] Try.func37 ?_
 have hM := Mem.init w
 refine zsr <| zal hM 73 [(vS none 0 0), (vS none 0 0), (vS none 0 0), (vI 0), (vS none 0 0), (vI 0), (vI 0), (vI 0), (vS none 0 0), (vI 0), (.bool false), (vI 0), (vI 0)] fun b1 w2 hb1 M3 => ?_
 replace M3 := M3.nf
 clear hM
 refine zfe <| zsr <| zpn 3 <| zmn (some 22) (.tmp 21) (.const (vI 4194304)) #[3, 3] 3 .i64 fuel 4194304 <| zmx (some 23) (.const (vI 0)) (.tmp 22) #[3, 3] 3 .i64 0 (min fuel 4194304) <| zpn 1 <| zal M3 73 [(vS none 0 0), (vS none 0 0), (vS none 0 0), (vI 0), (vS none 0 0), (vI 0), (vI 0), (vI 0), (vS none 0 0), (vI 0), (.bool false), (vI 0), (vI 0)] fun b4 w5 hb4 M6 => ?_
 replace M6 := M6.nf
 refine zss M6 1 [(vS dA ds.length dc), (vS none 0 0), (vS none 0 0), (vI 1), (vS iA inp.length ic), (vI 0), (vI 0), (vI 0), (vS none 0 0), (vI 0), (.bool false), (vI (max 0 (min fuel 4194304))), (vI 0)] rfl fun w7 M8 => ?_
 replace M8 := M8.nf
 refine zfe <| zsq <| zsp <| zbk 0 ?_
 have M9 := M8.cl (Mem.nilrow _ 3 1)
 have M10 : Mem noS w w7 [.blk b1 73 [(vS none 0 0), (vS none 0 0), (vS none 0 0), (vI 0), (vS none 0 0), (vI 0), (vI 0), (vI 0), (vS none 0 0), (vI 0), (.bool false), (vI 0), (vI 0)], .blk b4 73 [(vS dA ds.length dc), (vS none 0 0), (vS none 0 0), (vI (nextTo ds 0 : Int)), (vS iA inp.length ic), (vI 0), (vI 0), (vI 0), (vS none 0 0), (vI 0), (.bool false), (vI (max 0 (min fuel 4194304))), (vI 0)], .row 3 1 none 0 0 (ints (plcs ds 0))] := M9.cast rfl
 intro aC fr
 refine zlp (fun n_ a_ w_ => ∃ (j : Nat) (Aj : Option Addr) (cj : Nat), n_ = ds.length - j ∧ Fr a_ 163 [(0, (vS dA ds.length dc)), (1, (vS nA cs.length nc)), (2, (vI mem)), (10, (pT b1 0)), (11, (pT b4 0)), (12, (nV j))] ∧ Mem noS w w_ [.blk b1 73 [(vS none 0 0), (vS none 0 0), (vS none 0 0), (vI 0), (vS none 0 0), (vI 0), (vI 0), (vI 0), (vS none 0 0), (vI 0), (.bool false), (vI 0), (vI 0)], .blk b4 73 [(vS dA ds.length dc), (vS Aj j cj), (vS none 0 0), (vI (nextTo ds j : Int)), (vS iA inp.length ic), (vI 0), (vI 0), (vI 0), (vS none 0 0), (vI 0), (.bool false), (vI (max 0 (min fuel 4194304))), (vI 0)], .row 3 1 Aj j cj (ints (plcs ds j))] ∧ (j ≤ ds.length)) (n := _) ⟨0, none, 0, rfl, fr.kp [0, 1, 2, 10, 11, 12], M10, Nat.zero_le _⟩ ?_
 clear fr aC M10; rintro n aC w13 ⟨j, Aj, cj, rfl, fr, M14, hj⟩
 revert aC
 refine zsq <| zsp <| zcD (((j : Int) : Int) < ((ds.length : Nat) : Int)) (fun c17 => ?_) (fun c17 => ?_)
 refine zsk <| zsq <| zbk 1 <| zsr ?_
 obtain ⟨d, hd⟩ := get_of (l := ds) (i := j) (by omega)
 have hdm := List.mem_of_getElem? hd
 have hdw := hw d hdm
 have hdl := hdw.len
 have hdr := hdw.rlen
 have hmn := nextTo_mono (ds := ds) (j := j + 1) (i := ds.length) (by omega)
 rw [nextTo_succ hd] at hmn
 refine zpn 1 <| zld ⟨b4, 1, none⟩ (vS Aj j cj) (blk_cell (M14.get 1 rfl) rfl) <| zpn 1 <| zld ⟨b4, 3, none⟩ (vI (nextTo ds j : Int)) (blk_cell (M14.get 1 rfl) rfl) ?_
 intro aC fr
 refine zBs 35 71 1 #[(0, (.tmp 34))] 71 fr (e := 3) (size := 1) (zs := [(vI 0)]) (vs := [(0, (vI (nextTo ds j : Int)))]) (cs := [(vI (nextTo ds j : Int))]) M14 ?_
 intro b18 w19 hb18 _ M20 _ aC ea fr; clear ea
 replace M20 := M20.nf
 refine zAN 36 (.tmp 32) (.tmp 35) 71 71 fr (e := 3) (size := 1) (bytes := 8) (z := (vI 0)) (A := Aj) (B := (sM b18)) (n := j) (cap := cj) (m := 1) (cap' := 1) (xs := (ints (plcs ds j))) (news := [(vI (nextTo ds j : Int))]) M20 2 rfl (row_rd (M20.get 3 rfl)) rfl (by simp [Value.oneCell']) (by omega) (by simp only [maxLen]; omega) (j + 1) (ints (plcs ds (j + 1))) rfl (by rw [← plcs_snoc, ints_append]; rfl) ?_
 intro A25 c26 w27 M28 _ aC ea fr; clear ea
 replace M28 := M28.nf
 have M31 := M28.od [2, 2, 2] 3
 revert aC
 refine zpn 1 <| zsb (ho := (by simp)) M31 1 1 (vS A25 (j + 1) c26) rfl fun w32 M33 => ?_
 replace M33 := M33.nf
 refine zfe ?_
 obtain ⟨ad34, rfl⟩ := rds_some (M33.ro hds) (cs := d.cells) (i := j) (gm hd)
 refine zkp [(0, (vS (some ad34) ds.length dc)), (1, (vS nA cs.length nc)), (2, (vI mem)), (10, (pT b1 0)), (11, (pT b4 0)), (12, (nV j))] ?_
 intro aC fr
 refine zdt 8 (N := 163) (env0 := [(0, (vS (some ad34) ds.length dc)), (1, (vS nA cs.length nc)), (2, (vI mem)), (10, (pT b1 0)), (11, (pT b4 0)), (12, (nV j))]) (specAt [.det (pT b4 3), .det (vI (nextTo ds j : Int)), .det (vS (some ad34) ds.length dc), .det (nV j), .det (.pointer (some ((ad34 : Addr).add (((j : Int)).toNat * 4)))), .det (.pointer (some (((ad34 : Addr).add (((j : Int)).toNat * 4)).add 2))), .det (vS d.wA d.words.length d.wc), .det (vI ((d.words.length : Nat) : Int))]) fr (la (la (la (la (la (la (la (la lz dP) (dL ⟨b4, 3, none⟩ (vI (nextTo ds j : Int)) fun w_ hK => (blk_cell ((M33.then_ hK).get 1 rfl) rfl))) dP) dP) (dI ad34 ds.length 4 (j : Int))) dP) (dL (((ad34 : Addr).add (((j : Int)).toNat * 4)).add 2) (vS d.wA d.words.length d.wc) fun w_ hK => (rds_get ((M33.then_ hK).ro hds) rfl (i := j) (cs := d.cells) (gm hd) 2 _ rfl))) dP) ?_
 intro aC w39 vs hK hv fr
 revert aC; refine zkp [(0, (vS (some ad34) ds.length dc)), (1, (vS nA cs.length nc)), (2, (vI mem)), (10, (pT b1 0)), (11, (pT b4 0)), (12, (nV j)), (39, (vI (nextTo ds j : Int))), (45, (vI ((d.words.length : Nat) : Int)))] ?_
 have M40 := M33.then_ hK
 clear hK hv fr aC M33; clear vs
 refine zar ((nextTo ds j : Int) + ((d.words.length : Nat) : Int)) <| zpn 1 <| zsb (ho := (by simp)) M40 1 3 (vI ((nextTo ds j : Int) + ((d.words.length : Nat) : Int))) rfl fun w41 M42 => ?_
 replace M42 := M42.nf
 refine zfe <| zrg <| zpn 1 <| zar ((j : Int) + 1) <| zpn 1 <| zfe ?_
 have M43 : Mem noS w w41 [.blk b1 73 [(vS none 0 0), (vS none 0 0), (vS none 0 0), (vI 0), (vS none 0 0), (vI 0), (vI 0), (vI 0), (vS none 0 0), (vI 0), (.bool false), (vI 0), (vI 0)], .blk b4 73 [(vS (some ad34) ds.length dc), (vS A25 (j + 1) c26), (vS none 0 0), (vI (nextTo ds (j + 1) : Int)), (vS iA inp.length ic), (vI 0), (vI 0), (vI 0), (vS none 0 0), (vI 0), (.bool false), (vI (max 0 (min fuel 4194304))), (vI 0)], .row 3 1 A25 (j + 1) c26 (ints (plcs ds (j + 1)))] := M42.cast (by rw [nextTo_succ hd]; rfl)
 intro aC fr
 exact ⟨ds.length - (j + 1), by omega, j + 1, A25, c26, rfl, fr.kp [0, 1, 2, 10, 11, 12], M43, by omega⟩
 refine zex 0 <| zbh <| zsq <| zsr <| zpn 1 <| zld ⟨b4, 3, none⟩ (vI (nextTo ds j : Int)) (blk_cell (M14.get 1 rfl) rfl) <| zpn 2 <| zfe <| zcD (((nextTo ds j : Int) : Int) > mem) (fun c46 => ?_) (fun c46 => ?_)
 obtain rfl : j = ds.length := by omega
 refine zsr <| zcl (rendS_c b4 (vS dA ds.length dc) (vS Aj ds.length cj) (vS none 0 0) (vI (nextTo ds ds.length : Int)) (vS iA inp.length ic) (vI 0) (vI 0) (vI 0) (vS none 0 0) (vI 0) (vI (max 0 (min fuel 4194304))) (vI 0) 3 0 w13 (M14.get 1 rfl)) ?_
 rintro _ w47 ⟨rfl, M48x⟩
 have M48 := M14.md 1 rfl M48x
 refine zfe <| zsr <| zls ⟨b4, 0, none⟩ [(vS dA ds.length dc), (vS Aj ds.length cj), (vS none 0 0), (vI (nextTo ds ds.length : Int)), (vS iA inp.length ic), (vI 0), (vI 3), (vI 0), (vS none 0 0), (vI 0), (.bool true), (vI (max 0 (min fuel 4194304))), (vI 0)] (blk_cells (M48.get 1 rfl)) <| zss M48 0 [(vS dA ds.length dc), (vS Aj ds.length cj), (vS none 0 0), (vI (nextTo ds ds.length : Int)), (vS iA inp.length ic), (vI 0), (vI 3), (vI 0), (vS none 0 0), (vI 0), (.bool true), (vI (max 0 (min fuel 4194304))), (vI 0)] rfl fun w49 M50 => ?_
 replace M50 := M50.nf
 refine zfe <| zre ?_
 intro aC fr
 refine outC (ad := ⟨b1, 0, none⟩) (vs := [(vS dA ds.length dc), (vS Aj ds.length cj), (vS none 0 0), (vI (nextTo ds ds.length : Int)), (vS iA inp.length ic), (vI 0), (vI 3), (vI 0), (vS none 0 0), (vI 0), (.bool true), (vI (max 0 (min fuel 4194304))), (vI 0)]) fr rfl (by kernel_rfl) (by kernel_rfl) (blk_cells (M50.get 0 rfl)) ?_
 refine ⟨_, rfl, ?_⟩
 have M53 := M50.od [2] 1
 exact ⟨Aj, cj, .inl ⟨by omega, rfl, M53⟩⟩
 obtain rfl : j = ds.length := by omega
 refine zsk <| zsr <| zpn 1 ?_
 intro aC fr
 refine From_make1 (by kernel_rfl : coreAt _ 1 = some (some 55, (.makeSlice 56 (.tmp 54) (.tmp 54)), 56, none)) fr (by kernel_rfl) (by kernel_rfl) (k' := 2) rfl (e := 2) (bytes := 8) (z := (vI 0)) (n := mem.toNat) (i := mem) (by kernel_rfl) (by kernel_rfl) (by omega) (by kernel_rfl) (by kernel_rfl) rfl (by omega) (by simp only [maxLen]; omega) M14 ?_
 intro b54 w55 hb54 _ M56 _ aC ea fr; clear ea
 replace M56 := M56.nf
 revert aC
 refine zpn 1 <| zsb (ho := (by simp)) M56 1 2 (vS (sM b54) mem.toNat mem.toNat) rfl fun w61 M62 => ?_
 replace M62 := M62.nf
 refine zfe <| zsq <| zsp <| zbk 2 ?_
 have M63 : Mem noS w w61 [.blk b1 73 [(vS none 0 0), (vS none 0 0), (vS none 0 0), (vI 0), (vS none 0 0), (vI 0), (vI 0), (vI 0), (vS none 0 0), (vI 0), (.bool false), (vI 0), (vI 0)], .blk b4 73 [(vS dA ds.length dc), (vS Aj ds.length cj), (vS (sM b54) mem.toNat mem.toNat), (vI (nextTo ds ds.length : Int)), (vS iA inp.length ic), (vI 0), (vI 0), (vI 0), (vS none 0 0), (vI 0), (.bool false), (vI (max 0 (min fuel 4194304))), (vI 0)], .row 3 1 Aj ds.length cj (ints (plcs ds ds.length)), .row 2 1 (sM b54) mem.toNat mem.toNat (ints (wTo ds mem.toNat 0))] := M62.cast (by rw [mem_ints]; rfl)
 intro aC fr
 refine zlp (fun n_ a_ w_ => ∃ (j : Nat), n_ = ds.length - j ∧ Fr a_ 163 [(0, (vS dA ds.length dc)), (1, (vS nA cs.length nc)), (10, (pT b1 0)), (11, (pT b4 0)), (13, (nV j))] ∧ Mem noS w w_ [.blk b1 73 [(vS none 0 0), (vS none 0 0), (vS none 0 0), (vI 0), (vS none 0 0), (vI 0), (vI 0), (vI 0), (vS none 0 0), (vI 0), (.bool false), (vI 0), (vI 0)], .blk b4 73 [(vS dA ds.length dc), (vS Aj ds.length cj), (vS (sM b54) mem.toNat mem.toNat), (vI (nextTo ds ds.length : Int)), (vS iA inp.length ic), (vI 0), (vI 0), (vI 0), (vS none 0 0), (vI 0), (.bool false), (vI (max 0 (min fuel 4194304))), (vI 0)], .row 3 1 Aj ds.length cj (ints (plcs ds ds.length)), .row 2 1 (sM b54) mem.toNat mem.toNat (ints (wTo ds mem.toNat j))] ∧ (j ≤ ds.length)) (n := _) ⟨0, rfl, fr.kp [0, 1, 10, 11, 13], M63, Nat.zero_le _⟩ ?_
 clear fr aC M63; rintro n aC w66 ⟨j, rfl, fr, M67, hj2⟩
 revert aC
 refine zsq <| zsp <| zcD (((j : Int) : Int) < ((ds.length : Nat) : Int)) (fun c70 => ?_) (fun c70 => ?_)
 refine zsk <| zsq <| zbk 3 <| zsr ?_
 obtain ⟨d, hd⟩ := get_of (l := ds) (i := j) (by omega)
 have hdm := List.mem_of_getElem? hd
 have hdw := hw d hdm
 have hdl := hdw.len
 have hdr := hdw.rlen
 have hmn := nextTo_mono (ds := ds) (j := j + 1) (i := ds.length) (by omega)
 rw [nextTo_succ hd] at hmn
 refine zpn 1 <| zfe <| zbk 4 ?_
 have M71 : Mem noS w w66 [.blk b1 73 [(vS none 0 0), (vS none 0 0), (vS none 0 0), (vI 0), (vS none 0 0), (vI 0), (vI 0), (vI 0), (vS none 0 0), (vI 0), (.bool false), (vI 0), (vI 0)], .blk b4 73 [(vS dA ds.length dc), (vS Aj ds.length cj), (vS (sM b54) mem.toNat mem.toNat), (vI (nextTo ds ds.length : Int)), (vS iA inp.length ic), (vI 0), (vI 0), (vI 0), (vS none 0 0), (vI 0), (.bool false), (vI (max 0 (min fuel 4194304))), (vI 0)], .row 3 1 Aj ds.length cj (ints (plcs ds ds.length)), .row 2 1 (sM b54) mem.toNat mem.toNat (ints (writeAt (wTo ds mem.toNat j) (nextTo ds j) (d.words.take 0)))] := M67.cast (by rw [List.take_zero, writeAt_nil])
 intro aC fr
 refine zlp (fun n_ a_ w_ => ∃ (k : Nat), n_ = d.words.length - k ∧ Fr a_ 163 [(0, (vS dA ds.length dc)), (1, (vS nA cs.length nc)), (10, (pT b1 0)), (11, (pT b4 0)), (13, (nV j)), (14, (nV k))] ∧ Mem noS w w_ [.blk b1 73 [(vS none 0 0), (vS none 0 0), (vS none 0 0), (vI 0), (vS none 0 0), (vI 0), (vI 0), (vI 0), (vS none 0 0), (vI 0), (.bool false), (vI 0), (vI 0)], .blk b4 73 [(vS dA ds.length dc), (vS Aj ds.length cj), (vS (sM b54) mem.toNat mem.toNat), (vI (nextTo ds ds.length : Int)), (vS iA inp.length ic), (vI 0), (vI 0), (vI 0), (vS none 0 0), (vI 0), (.bool false), (vI (max 0 (min fuel 4194304))), (vI 0)], .row 3 1 Aj ds.length cj (ints (plcs ds ds.length)), .row 2 1 (sM b54) mem.toNat mem.toNat (ints (writeAt (wTo ds mem.toNat j) (nextTo ds j) (d.words.take k)))] ∧ (k ≤ d.words.length)) (n := _) ⟨0, rfl, fr.kp [0, 1, 10, 11, 13, 14], M71, Nat.zero_le _⟩ ?_
 clear fr aC M71; rintro n aC w74 ⟨k, rfl, fr, M75, hk⟩
 revert aC
 refine zsq <| zsr <| zpn 3 ?_
 obtain ⟨ad78, rfl⟩ := rds_some (M75.ro hds) (cs := d.cells) (i := j) (gm hd)
 refine zix ad78 ds.length 4 (j : Int) <| zpn 1 ?_
 refine zld (((ad78 : Addr).add (((j : Int)).toNat * 4)).add 2) (vS d.wA d.words.length d.wc) (rds_get (M75.ro hds) rfl (i := j) (cs := d.cells) (gm hd) 2 _ rfl) ?_
 refine zpn 2 <| zfe <| zcD (((k : Int) : Int) < ((d.words.length : Nat) : Int)) (fun c79 => ?_) (fun c79 => ?_)
 refine zsk <| zsq <| zbk 5 ?_
 obtain ⟨g80, rfl⟩ := row_some (M75.get 2 rfl) (by omega)
 obtain ⟨ad81, had82⟩ := rd_some (M75.ro (hpw d hdm)) (by rw [ints_len]; omega)
 refine zkp [(0, (vS (some ad78) ds.length dc)), (1, (vS nA cs.length nc)), (10, (pT b1 0)), (11, (pT b4 0)), (13, (nV j)), (14, (nV k))] ?_
 intro aC fr
 refine zdt 17 (N := 163) (env0 := [(0, (vS (some ad78) ds.length dc)), (1, (vS nA cs.length nc)), (10, (pT b1 0)), (11, (pT b4 0)), (13, (nV j)), (14, (nV k))]) (specAt [.det (pT b4 2), .det (vS (sM b54) mem.toNat mem.toNat), .det (pT b4 1), .det (vS (sM g80) ds.length cj), .det (nV j), .det (.pointer (some ((⟨g80, 0, none⟩ : Addr).add (((j : Int)).toNat * 1)))), .det (vI (nextTo ds j : Int)), .det (nV k), .det (vI ((nextTo ds j : Int) + (k : Int))), .det (vS (some ad78) ds.length dc), .det (nV j), .det (.pointer (some ((ad78 : Addr).add (((j : Int)).toNat * 4)))), .det (.pointer (some (((ad78 : Addr).add (((j : Int)).toNat * 4)).add 2))), .det (vS d.wA d.words.length d.wc), .det (nV k), .det (.pointer (some ((ad81 : Addr).add (((k : Int)).toNat * 1)))), .det (vI (d.words.getD (k : Int).toNat 0))]) fr (la (la (la (la (la (la (la (la (la (la (la (la (la (la (la (la (la lz dP) (dL ⟨b4, 2, none⟩ (vS (sM b54) mem.toNat mem.toNat) fun w_ hK => (blk_cell ((M75.then_ hK).get 1 rfl) rfl))) dP) (dL ⟨b4, 1, none⟩ (vS (sM g80) ds.length cj) fun w_ hK => (blk_cell ((M75.then_ hK).get 1 rfl) rfl))) dP) (dI ⟨g80, 0, none⟩ ds.length 1 (j : Int))) (dL ((⟨g80, 0, none⟩ : Addr).add (((j : Int)).toNat * 1)) (vI (nextTo ds j : Int)) fun w_ hK => (rd_at (row_rd ((M75.then_ hK).get 2 rfl)) rfl (plcs_get (by omega))))) dP) (dA ((nextTo ds j : Int) + (k : Int)))) dP) dP) (dI ad78 ds.length 4 (j : Int))) dP) (dL (((ad78 : Addr).add (((j : Int)).toNat * 4)).add 2) (vS d.wA d.words.length d.wc) fun w_ hK => (rds_get ((M75.then_ hK).ro hds) rfl (i := j) (cs := d.cells) (gm hd) 2 _ rfl))) dP) (dIA d.wA ad81 d.words.length 1 (k : Int) had82)) (dL ((ad81 : Addr).add (((k : Int)).toNat * 1)) (vI (d.words.getD (k : Int).toNat 0)) fun w_ hK => (rd_int ((M75.then_ hK).ro (hpw d hdm)) had82 (by omega) (by omega)))) ?_
 intro aC w87 vs hK hv fr
 revert aC; refine zkp [(0, (vS (some ad78) ds.length dc)), (1, (vS nA cs.length nc)), (10, (pT b1 0)), (11, (pT b4 0)), (13, (nV j)), (14, (nV k)), (74, (vS (sM b54) mem.toNat mem.toNat)), (81, (vI ((nextTo ds j : Int) + (k : Int)))), (89, (vI (d.words.getD (k : Int).toNat 0)))] ?_
 have M88 := M75.then_ hK
 clear hK hv fr aC M75; clear vs
 refine zix (h0 := (by omega)) (h1 := (by omega)) ⟨b54, 0, none⟩ mem.toNat 1 ((nextTo ds j : Int) + (k : Int)) <| zsw M88 3 ((⟨b54, 0, none⟩ : Addr).add ((((nextTo ds j : Int) + (k : Int))).toNat * 1)) ((((nextTo ds j : Int) + (k : Int))).toNat * 1) (vI (d.words.getD (k : Int).toNat 0)) rfl rfl (by omega) fun w89 M90 => ?_
 replace M90 := M90.nf
 refine zfe <| zrg <| zpn 1 <| zar ((k : Int) + 1) <| zpn 1 <| zfe ?_
 have M91 : Mem noS w w89 [.blk b1 73 [(vS none 0 0), (vS none 0 0), (vS none 0 0), (vI 0), (vS none 0 0), (vI 0), (vI 0), (vI 0), (vS none 0 0), (vI 0), (.bool false), (vI 0), (vI 0)], .blk b4 73 [(vS (some ad78) ds.length dc), (vS (sM g80) ds.length cj), (vS (sM b54) mem.toNat mem.toNat), (vI (nextTo ds ds.length : Int)), (vS iA inp.length ic), (vI 0), (vI 0), (vI 0), (vS none 0 0), (vI 0), (.bool false), (vI (max 0 (min fuel 4194304))), (vI 0)], .row 3 1 (sM g80) ds.length cj (ints (plcs ds ds.length)), .row 2 1 (sM b54) mem.toNat mem.toNat (ints (writeAt (wTo ds mem.toNat j) (nextTo ds j) (d.words.take (k + 1))))] := M90.cast (by rw [set_row_int, show ((nextTo ds j : Int) + (k : Int)).toNat = nextTo ds j + k by omega, Int.toNat_natCast, writeAt_step (by omega) (by rw [wTo_len _ (by omega) (by omega)]; exact nextTo_fits hd (by omega))])
 intro aC fr
 exact ⟨d.words.length - (k + 1), by omega, k + 1, rfl, fr.kp [0, 1, 10, 11, 13, 14], M91, by omega⟩
 refine zex 4 <| zbh <| zrg <| zpn 1 <| zar ((j : Int) + 1) <| zpn 1 <| zfe ?_
 have M94 : Mem noS w w74 [.blk b1 73 [(vS none 0 0), (vS none 0 0), (vS none 0 0), (vI 0), (vS none 0 0), (vI 0), (vI 0), (vI 0), (vS none 0 0), (vI 0), (.bool false), (vI 0), (vI 0)], .blk b4 73 [(vS (some ad78) ds.length dc), (vS Aj ds.length cj), (vS (sM b54) mem.toNat mem.toNat), (vI (nextTo ds ds.length : Int)), (vS iA inp.length ic), (vI 0), (vI 0), (vI 0), (vS none 0 0), (vI 0), (.bool false), (vI (max 0 (min fuel 4194304))), (vI 0)], .row 3 1 Aj ds.length cj (ints (plcs ds ds.length)), .row 2 1 (sM b54) mem.toNat mem.toNat (ints (wTo ds mem.toNat (j + 1)))] := M75.cast (by rw [List.take_of_length_le (by omega), ← wTo_succ hd])
 intro aC fr
 exact ⟨ds.length - (j + 1), by omega, j + 1, rfl, fr.kp [0, 1, 10, 11, 13], M94, by omega⟩
 refine zex 2 <| zbh <| zsq <| zsp <| zbk 6 ?_
 have M97 : Mem noS w w66 [.blk b1 73 [(vS none 0 0), (vS none 0 0), (vS none 0 0), (vI 0), (vS none 0 0), (vI 0), (vI 0), (vI 0), (vS none 0 0), (vI 0), (.bool false), (vI 0), (vI 0)], .blk b4 73 [(vS dA ds.length dc), (vS Aj ds.length cj), (vS (sM b54) mem.toNat mem.toNat), (vI (nextTo ds ds.length : Int)), (vS iA inp.length ic), (vI 0), (vI 0), (vI 0), (vS none 0 0), (vI 0), (.bool false), (vI (max 0 (min fuel 4194304))), (vI 0)], .row 3 1 Aj ds.length cj (ints (plcs ds ds.length)), .row 2 1 (sM b54) mem.toNat mem.toNat (ints (rTo (nmsTo cs cs.length) (dataTo ds ds.length) ds (wTo ds mem.toNat ds.length) 0))] := M67.cast (by rw [show j = ds.length by omega]; rfl)
 intro aC fr
 refine zlp (fun n_ a_ w_ => ∃ (jr : Nat), n_ = ds.length - jr ∧ Fr a_ 163 [(0, (vS dA ds.length dc)), (1, (vS nA cs.length nc)), (10, (pT b1 0)), (11, (pT b4 0)), (15, (nV jr))] ∧ Mem noS w w_ [.blk b1 73 [(vS none 0 0), (vS none 0 0), (vS none 0 0), (vI 0), (vS none 0 0), (vI 0), (vI 0), (vI 0), (vS none 0 0), (vI 0), (.bool false), (vI 0), (vI 0)], .blk b4 73 [(vS dA ds.length dc), (vS Aj ds.length cj), (vS (sM b54) mem.toNat mem.toNat), (vI (nextTo ds ds.length : Int)), (vS iA inp.length ic), (vI 0), (vI 0), (vI 0), (vS none 0 0), (vI 0), (.bool false), (vI (max 0 (min fuel 4194304))), (vI 0)], .row 3 1 Aj ds.length cj (ints (plcs ds ds.length)), .row 2 1 (sM b54) mem.toNat mem.toNat (ints (rTo (nmsTo cs cs.length) (dataTo ds ds.length) ds (wTo ds mem.toNat ds.length) jr))] ∧ (jr ≤ ds.length)) (n := _) ⟨0, rfl, fr.kp [0, 1, 10, 11, 15], M97, Nat.zero_le _⟩ ?_
 clear fr aC M97; rintro n aC w100 ⟨jr, rfl, fr, M101, hjr⟩
 revert aC
 refine zsq <| zsp <| zcD (((jr : Int) : Int) < ((ds.length : Nat) : Int)) (fun c104 => ?_) (fun c104 => ?_)
 refine zsk <| zsq <| zbk 7 <| zsr ?_
 obtain ⟨d, hd⟩ := get_of (l := ds) (i := jr) (by omega)
 have hdm := List.mem_of_getElem? hd
 have hdw := hw d hdm
 have hdl := hdw.len
 have hdr := hdw.rlen
 have hmn := nextTo_mono (ds := ds) (j := jr + 1) (i := ds.length) (by omega)
 rw [nextTo_succ hd] at hmn
 refine zpn 1 <| zfe <| zbk 8 ?_
 have M105 : Mem noS w w100 [.blk b1 73 [(vS none 0 0), (vS none 0 0), (vS none 0 0), (vI 0), (vS none 0 0), (vI 0), (vI 0), (vI 0), (vS none 0 0), (vI 0), (.bool false), (vI 0), (vI 0)], .blk b4 73 [(vS dA ds.length dc), (vS Aj ds.length cj), (vS (sM b54) mem.toNat mem.toNat), (vI (nextTo ds ds.length : Int)), (vS iA inp.length ic), (vI 0), (vI 0), (vI 0), (vS none 0 0), (vI 0), (.bool false), (vI (max 0 (min fuel 4194304))), (vI 0)], .row 3 1 Aj ds.length cj (ints (plcs ds ds.length)), .row 2 1 (sM b54) mem.toNat mem.toNat (ints (putRefs (nmsTo cs cs.length) (dataTo ds ds.length) (nextTo ds jr) (rTo (nmsTo cs cs.length) (dataTo ds ds.length) ds (wTo ds mem.toNat ds.length) jr) (d.refs.take 0)))] := M101.cast (by rw [List.take_zero]; rfl)
 intro aC fr
 refine zlp (fun n_ a_ w_ => ∃ (kr : Nat), n_ = d.refs.length - kr ∧ Fr a_ 163 [(0, (vS dA ds.length dc)), (1, (vS nA cs.length nc)), (10, (pT b1 0)), (11, (pT b4 0)), (15, (nV jr)), (16, (nV kr))] ∧ Mem noS w w_ [.blk b1 73 [(vS none 0 0), (vS none 0 0), (vS none 0 0), (vI 0), (vS none 0 0), (vI 0), (vI 0), (vI 0), (vS none 0 0), (vI 0), (.bool false), (vI 0), (vI 0)], .blk b4 73 [(vS dA ds.length dc), (vS Aj ds.length cj), (vS (sM b54) mem.toNat mem.toNat), (vI (nextTo ds ds.length : Int)), (vS iA inp.length ic), (vI 0), (vI 0), (vI 0), (vS none 0 0), (vI 0), (.bool false), (vI (max 0 (min fuel 4194304))), (vI 0)], .row 3 1 Aj ds.length cj (ints (plcs ds ds.length)), .row 2 1 (sM b54) mem.toNat mem.toNat (ints (putRefs (nmsTo cs cs.length) (dataTo ds ds.length) (nextTo ds jr) (rTo (nmsTo cs cs.length) (dataTo ds ds.length) ds (wTo ds mem.toNat ds.length) jr) (d.refs.take kr)))] ∧ (kr ≤ d.refs.length)) (n := _) ⟨0, rfl, fr.kp [0, 1, 10, 11, 15, 16], M105, Nat.zero_le _⟩ ?_
 clear fr aC M105; rintro n aC w108 ⟨kr, rfl, fr, M109, hkr⟩
 revert aC
 refine zsq <| zsr <| zpn 3 ?_
 obtain ⟨ad112, rfl⟩ := rds_some (M109.ro hds) (cs := d.cells) (i := jr) (gm hd)
 refine zix ad112 ds.length 4 (jr : Int) <| zpn 1 ?_
 refine zld (((ad112 : Addr).add (((jr : Int)).toNat * 4)).add 3) (vS d.rA d.refs.length d.rc) (rds_get (M109.ro hds) rfl (i := jr) (cs := d.cells) (gm hd) 3 _ rfl) ?_
 refine zpn 2 <| zfe <| zcD (((kr : Int) : Int) < ((d.refs.length : Nat) : Int)) (fun c113 => ?_) (fun c113 => ?_)
 refine zsk <| zsq <| zbk 9 <| zsr ?_
 obtain ⟨r, hr⟩ := get_of (l := d.refs) (i := kr) (by omega)
 have hrr := hdw.refs r (List.mem_of_getElem? hr)
 refine zpn 2 <| zix ad112 ds.length 4 (jr : Int) <| zpn 1 ?_
 refine zld (((ad112 : Addr).add (((jr : Int)).toNat * 4)).add 3) (vS d.rA d.refs.length d.rc) (rds_get (M109.ro hds) rfl (i := jr) (cs := d.cells) (gm hd) 3 _ rfl) ?_
 refine zpn 1 ?_
 obtain ⟨ad114, had115⟩ := rds_some (M109.ro (hpr d hdm)) (cs := refCells r) (i := kr) (gm hr)
 intro aC fr
 refine From_ixA (some 113) d.rA ad114 d.refs.length 2 (kr : Int) fr (by kernel_rfl) had115 (by omega) (by omega) ?_
 intro aC fr
 revert aC
 refine zpn 1 ?_
 refine zld (((ad114 : Addr).add (((kr : Int)).toNat * 2)).add 1) (.string r.2) (rds_get (M109.ro (hpr d hdm)) had115 (i := kr) (cs := refCells r) (gm hr) 1 _ rfl) ?_
 refine zkp [(0, (vS (some ad112) ds.length dc)), (1, (vS nA cs.length nc)), (10, (pT b1 0)), (11, (pT b4 0)), (15, (nV jr)), (16, (nV kr)), (115, (.string r.2))] <| zcl (rplaceS_c b4 ds (some ad112) dc Aj cj (vS (sM b54) mem.toNat mem.toNat) (vI (nextTo ds ds.length : Int)) (vS iA inp.length ic) (vI 0) (vI 0) (vI 0) (vS none 0 0) (vI 0) (.bool false) (vI (max 0 (min fuel 4194304))) (vI 0) r.2 w108 (M109.own_ro 1 rfl) (hds.at_ M109) (RO.row_rd (M109.own_ro 2 rfl)) (by omega)) ?_
 rintro _ w120 ⟨rfl, M121x⟩
 have M121 := M109.cl M121x
 refine zpn 1 <| zfe <| zsq <| zsp <| zbk 10 ?_
 intro aC fr
 refine zlp (fun n_ a_ w_ => ∃ (jn : Nat) (vn : Int), n_ = cs.length - jn ∧ Fr a_ 163 [(0, (vS (some ad112) ds.length dc)), (1, (vS nA cs.length nc)), (10, (pT b1 0)), (11, (pT b4 0)), (15, (nV jr)), (16, (nV kr)), (17, (vI vn)), (18, (nV jn))] ∧ Mem noS w w_ [.blk b1 73 [(vS none 0 0), (vS none 0 0), (vS none 0 0), (vI 0), (vS none 0 0), (vI 0), (vI 0), (vI 0), (vS none 0 0), (vI 0), (.bool false), (vI 0), (vI 0)], .blk b4 73 [(vS (some ad112) ds.length dc), (vS Aj ds.length cj), (vS (sM b54) mem.toNat mem.toNat), (vI (nextTo ds ds.length : Int)), (vS iA inp.length ic), (vI 0), (vI 0), (vI 0), (vS none 0 0), (vI 0), (.bool false), (vI (max 0 (min fuel 4194304))), (vI 0)], .row 3 1 Aj ds.length cj (ints (plcs ds ds.length)), .row 2 1 (sM b54) mem.toNat mem.toNat (ints (putRefs (nmsTo cs cs.length) (dataTo ds ds.length) (nextTo ds jr) (rTo (nmsTo cs cs.length) (dataTo ds ds.length) ds (wTo ds mem.toNat ds.length) jr) (d.refs.take kr)))] ∧ (jn ≤ cs.length) ∧ (RfQ cs ds r.2 jn vn)) (n := _) ⟨0, ((lkp (dataTo ds ds.length) r.2).getD 0), rfl, fr.kp [0, 1, 10, 11, 15, 16, 17, 18], M121, Nat.zero_le _, RfQ.start⟩ ?_
 clear fr aC M121; rintro n aC w124 ⟨jn, vn, rfl, fr, M125, hjn, hrq⟩
 revert aC
 refine zsq <| zsr <| zpn 5 ?_
 obtain ⟨B128, hB128⟩ : ∃ B : Bool, B = decide (((jn : Int) : Int) < ((cs.length : Nat) : Int)) := ⟨_, rfl⟩
 refine zkp [(0, (vS (some ad112) ds.length dc)), (1, (vS nA cs.length nc)), (10, (pT b1 0)), (11, (pT b4 0)), (15, (nV jr)), (16, (nV kr)), (17, (vI vn)), (18, (nV jn)), (121, (.bool (decide (((jn : Int) : Int) < ((cs.length : Nat) : Int)))))] ?_
 rw [← hB128]
 have iB128 : B128 = true ↔ (((jn : Int) : Int) < ((cs.length : Nat) : Int)) := by rw [hB128]; simp only [decide_eq_true_eq]
 clear hB128
 intro aC fr
 refine zpk 3 8 [124] fr (news := [(124, (.bool (B128 && ((vn : Int) == 0))))]) (by cases B128 <;> kernel_rfl) ?_
 intro aC fr
 revert aC
 refine zfe <| zcP (B128 && ((vn : Int) == 0)) ((((jn : Int) : Int) < ((cs.length : Nat) : Int)) ∧ ((vn : Int) = 0)) (by simp only [Bool.and_eq_true, beq_iff_eq, iB128]) (fun c133 => ?_) (fun c133 => ?_)
 refine zsk <| zsq <| zbk 11 <| zsq ?_
 obtain ⟨f, hf⟩ := get_of (l := cs) (i := jn) (by omega)
 obtain ⟨ad134, rfl⟩ := rd_some (M125.ro hn) (by rw [List.length_map]; omega)
 obtain ⟨ad135, had136⟩ := rds_some (M125.ro (hpr d hdm)) (cs := refCells r) (i := kr) (gm hr)
 obtain ⟨B137, hB137⟩ : ∃ B : Bool, B = ((f.nm : ByteArray).toList == (r.2 : ByteArray).toList) := ⟨_, rfl⟩
 refine zkp [(0, (vS (some ad112) ds.length dc)), (1, (vS (some ad134) cs.length nc)), (10, (pT b1 0)), (11, (pT b4 0)), (15, (nV jr)), (16, (nV kr)), (17, (vI vn)), (18, (nV jn))] ?_
 intro aC fr
 refine zdr (N := 163) (env0 := [(0, (vS (some ad112) ds.length dc)), (1, (vS (some ad134) cs.length nc)), (10, (pT b1 0)), (11, (pT b4 0)), (15, (nV jr)), (16, (nV kr)), (17, (vI vn)), (18, (nV jn))]) (specAt [.det (vS (some ad134) cs.length nc), .det (nV jn), .det (.pointer (some ((ad134 : Addr).add (((jn : Int)).toNat * 1)))), .det (.string f.nm), .det (vS (some ad112) ds.length dc), .det (nV jr), .det (.pointer (some ((ad112 : Addr).add (((jr : Int)).toNat * 4)))), .det (.pointer (some (((ad112 : Addr).add (((jr : Int)).toNat * 4)).add 3))), .det (vS d.rA d.refs.length d.rc), .det (nV kr), .det (.pointer (some ((ad135 : Addr).add (((kr : Int)).toNat * 2)))), .det (.pointer (some (((ad135 : Addr).add (((kr : Int)).toNat * 2)).add 1))), .det (.string r.2), .det (.bool B137)]) fr (la (la (la (la (la (la (la (la (la (la (la (la (la (la lz dP) dP) (dI ad134 cs.length 1 (jn : Int))) (dL ((ad134 : Addr).add (((jn : Int)).toNat * 1)) (.string f.nm) fun w_ hK => (rd_get1 (j := jn) ((M125.then_ hK).ro hn) rfl (gm hf)))) dP) dP) (dI ad112 ds.length 4 (jr : Int))) dP) (dL (((ad112 : Addr).add (((jr : Int)).toNat * 4)).add 3) (vS d.rA d.refs.length d.rc) fun w_ hK => (rds_get ((M125.then_ hK).ro hds) rfl (i := jr) (cs := d.cells) (gm hd) 3 _ rfl))) dP) (dIA d.rA ad135 d.refs.length 2 (kr : Int) had136)) dP) (dL (((ad135 : Addr).add (((kr : Int)).toNat * 2)).add 1) (.string r.2) fun w_ hK => (rds_get ((M125.then_ hK).ro (hpr d hdm)) had136 (i := kr) (cs := refCells r) (gm hr) 1 _ rfl))) (dPe hB137)) ?_
 intro aC w142 vs hK hv fr
 revert aC; refine zkp [(0, (vS (some ad112) ds.length dc)), (1, (vS (some ad134) cs.length nc)), (10, (pT b1 0)), (11, (pT b4 0)), (15, (nV jr)), (16, (nV kr)), (17, (vI vn)), (18, (nV jn)), (140, (.bool B137))] ?_
 have M143 := M125.then_ hK
 clear hK hv fr aC M125; clear vs
 have iB137 : B137 = true ↔ ((f.nm).toList = (r.2).toList) := by rw [hB137]; simp only [beq_iff_eq]
 clear hB137
 refine zcP B137 ((f.nm).toList = (r.2).toList) iB137 (fun c144 => ?_) (fun c144 => ?_)
 refine zrg <| zpn 1 <| zar ((jn : Int) + 1) <| zpn 1 <| zfe <| zrg <| zpn 1 <| zar ((jn : Int) + 1) <| zpn 1 <| zfe ?_
 intro aC fr
 exact ⟨cs.length - (jn + 1), by omega, jn + 1, ((jn : Int) + 1), rfl, fr.kp [0, 1, 10, 11, 15, 16, 17, 18], M143, by omega, hrq.hit (by omega) hf c144⟩
 refine zsk <| zrg <| zpn 1 <| zar ((jn : Int) + 1) <| zpn 1 <| zfe ?_
 intro aC fr
 exact ⟨cs.length - (jn + 1), by omega, jn + 1, vn, rfl, fr.kp [0, 1, 10, 11, 15, 16, 17, 18], M143, by omega, hrq.miss (by omega) hf c144⟩
 refine zex 10 <| zbh ?_
 obtain ⟨g149, rfl⟩ := row_some (M125.get 2 rfl) (by omega)
 obtain ⟨ad150, had151⟩ := rds_some (M125.ro (hpr d hdm)) (cs := refCells r) (i := kr) (gm hr)
 refine zkp [(0, (vS (some ad112) ds.length dc)), (1, (vS nA cs.length nc)), (10, (pT b1 0)), (11, (pT b4 0)), (15, (nV jr)), (16, (nV kr)), (17, (vI vn)), (18, (nV jn))] ?_
 intro aC fr
 refine zdt 18 (N := 163) (env0 := [(0, (vS (some ad112) ds.length dc)), (1, (vS nA cs.length nc)), (10, (pT b1 0)), (11, (pT b4 0)), (15, (nV jr)), (16, (nV kr)), (17, (vI vn)), (18, (nV jn))]) (specAt [.det (pT b4 2), .det (vS (sM b54) mem.toNat mem.toNat), .det (pT b4 1), .det (vS (sM g149) ds.length cj), .det (nV jr), .det (.pointer (some ((⟨g149, 0, none⟩ : Addr).add (((jr : Int)).toNat * 1)))), .det (vI (nextTo ds jr : Int)), .det (vS (some ad112) ds.length dc), .det (nV jr), .det (.pointer (some ((ad112 : Addr).add (((jr : Int)).toNat * 4)))), .det (.pointer (some (((ad112 : Addr).add (((jr : Int)).toNat * 4)).add 3))), .det (vS d.rA d.refs.length d.rc), .det (nV kr), .det (.pointer (some ((ad150 : Addr).add (((kr : Int)).toNat * 2)))), .det (.pointer (some ((ad150 : Addr).add (((kr : Int)).toNat * 2)))), .det (vI r.1), .det (vI ((nextTo ds jr : Int) + r.1)), .det (vI vn)]) fr (la (la (la (la (la (la (la (la (la (la (la (la (la (la (la (la (la (la lz dP) (dL ⟨b4, 2, none⟩ (vS (sM b54) mem.toNat mem.toNat) fun w_ hK => (blk_cell ((M125.then_ hK).get 1 rfl) rfl))) dP) (dL ⟨b4, 1, none⟩ (vS (sM g149) ds.length cj) fun w_ hK => (blk_cell ((M125.then_ hK).get 1 rfl) rfl))) dP) (dI ⟨g149, 0, none⟩ ds.length 1 (jr : Int))) (dL ((⟨g149, 0, none⟩ : Addr).add (((jr : Int)).toNat * 1)) (vI (nextTo ds jr : Int)) fun w_ hK => (rd_at (row_rd ((M125.then_ hK).get 2 rfl)) rfl (plcs_get (by omega))))) dP) dP) (dI ad112 ds.length 4 (jr : Int))) dP) (dL (((ad112 : Addr).add (((jr : Int)).toNat * 4)).add 3) (vS d.rA d.refs.length d.rc) fun w_ hK => (rds_get ((M125.then_ hK).ro hds) rfl (i := jr) (cs := d.cells) (gm hd) 3 _ rfl))) dP) (dIA d.rA ad150 d.refs.length 2 (kr : Int) had151)) dP) (dL ((ad150 : Addr).add (((kr : Int)).toNat * 2)) (vI r.1) fun w_ hK => (rds_get ((M125.then_ hK).ro (hpr d hdm)) had151 (i := kr) (cs := refCells r) (gm hr) 0 _ rfl))) (dA ((nextTo ds jr : Int) + r.1))) dP) ?_
 intro aC w156 vs hK hv fr
 revert aC; refine zkp [(0, (vS (some ad112) ds.length dc)), (1, (vS nA cs.length nc)), (10, (pT b1 0)), (11, (pT b4 0)), (15, (nV jr)), (16, (nV kr)), (144, (vS (sM b54) mem.toNat mem.toNat)), (159, (vI ((nextTo ds jr : Int) + r.1))), (160, (vI vn))] ?_
 have M157 := M125.then_ hK
 clear hK hv fr aC M125; clear vs
 refine zix (h0 := (by omega)) (h1 := (by omega)) ⟨b54, 0, none⟩ mem.toNat 1 ((nextTo ds jr : Int) + r.1) <| zsw M157 3 ((⟨b54, 0, none⟩ : Addr).add ((((nextTo ds jr : Int) + r.1)).toNat * 1)) ((((nextTo ds jr : Int) + r.1)).toNat * 1) (vI vn) rfl rfl (by omega) fun w158 M159 => ?_
 replace M159 := M159.nf
 refine zfe <| zrg <| zpn 1 <| zar ((kr : Int) + 1) <| zpn 1 <| zfe ?_
 have M160 : Mem noS w w158 [.blk b1 73 [(vS none 0 0), (vS none 0 0), (vS none 0 0), (vI 0), (vS none 0 0), (vI 0), (vI 0), (vI 0), (vS none 0 0), (vI 0), (.bool false), (vI 0), (vI 0)], .blk b4 73 [(vS (some ad112) ds.length dc), (vS (sM g149) ds.length cj), (vS (sM b54) mem.toNat mem.toNat), (vI (nextTo ds ds.length : Int)), (vS iA inp.length ic), (vI 0), (vI 0), (vI 0), (vS none 0 0), (vI 0), (.bool false), (vI (max 0 (min fuel 4194304))), (vI 0)], .row 3 1 (sM g149) ds.length cj (ints (plcs ds ds.length)), .row 2 1 (sM b54) mem.toNat mem.toNat (ints (putRefs (nmsTo cs cs.length) (dataTo ds ds.length) (nextTo ds jr) (rTo (nmsTo cs cs.length) (dataTo ds ds.length) ds (wTo ds mem.toNat ds.length) jr) (d.refs.take (kr + 1))))] := M159.cast (by rw [set_row_int, show ((nextTo ds jr : Int) + r.1).toNat = nextTo ds jr + r.1.toNat by omega, hrq.done (by omega) hjn, ← putRefs_snoc hr])
 intro aC fr
 exact ⟨d.refs.length - (kr + 1), by omega, kr + 1, rfl, fr.kp [0, 1, 10, 11, 15, 16], M160, by omega⟩
 refine zex 8 <| zbh <| zrg <| zpn 1 <| zar ((jr : Int) + 1) <| zpn 1 <| zfe ?_
 have M163 : Mem noS w w108 [.blk b1 73 [(vS none 0 0), (vS none 0 0), (vS none 0 0), (vI 0), (vS none 0 0), (vI 0), (vI 0), (vI 0), (vS none 0 0), (vI 0), (.bool false), (vI 0), (vI 0)], .blk b4 73 [(vS (some ad112) ds.length dc), (vS Aj ds.length cj), (vS (sM b54) mem.toNat mem.toNat), (vI (nextTo ds ds.length : Int)), (vS iA inp.length ic), (vI 0), (vI 0), (vI 0), (vS none 0 0), (vI 0), (.bool false), (vI (max 0 (min fuel 4194304))), (vI 0)], .row 3 1 Aj ds.length cj (ints (plcs ds ds.length)), .row 2 1 (sM b54) mem.toNat mem.toNat (ints (rTo (nmsTo cs cs.length) (dataTo ds ds.length) ds (wTo ds mem.toNat ds.length) (jr + 1)))] := M109.cast (by rw [List.take_of_length_le (by omega), ← rTo_succ hd])
 intro aC fr
 exact ⟨ds.length - (jr + 1), by omega, jr + 1, rfl, fr.kp [0, 1, 10, 11, 15], M163, by omega⟩
 refine zex 6 <| zbh <| zsr <| zls ⟨b4, 0, none⟩ [(vS dA ds.length dc), (vS Aj ds.length cj), (vS (sM b54) mem.toNat mem.toNat), (vI (nextTo ds ds.length : Int)), (vS iA inp.length ic), (vI 0), (vI 0), (vI 0), (vS none 0 0), (vI 0), (.bool false), (vI (max 0 (min fuel 4194304))), (vI 0)] (blk_cells (M101.get 1 rfl)) <| zss M101 0 [(vS dA ds.length dc), (vS Aj ds.length cj), (vS (sM b54) mem.toNat mem.toNat), (vI (nextTo ds ds.length : Int)), (vS iA inp.length ic), (vI 0), (vI 0), (vI 0), (vS none 0 0), (vI 0), (.bool false), (vI (max 0 (min fuel 4194304))), (vI 0)] rfl fun w166 M167 => ?_
 replace M167 := M167.nf
 refine zfe <| zre ?_
 intro aC fr
 refine outC (ad := ⟨b1, 0, none⟩) (vs := [(vS dA ds.length dc), (vS Aj ds.length cj), (vS (sM b54) mem.toNat mem.toNat), (vI (nextTo ds ds.length : Int)), (vS iA inp.length ic), (vI 0), (vI 0), (vI 0), (vS none 0 0), (vI 0), (.bool false), (vI (max 0 (min fuel 4194304))), (vI 0)]) fr rfl (by kernel_rfl) (by kernel_rfl) (blk_cells (M167.get 0 rfl)) ?_
 refine ⟨_, rfl, ?_⟩
 have M170 := M167.od [3, 3] 2
 have M171 : Mem noS w w166 [.row 3 1 Aj ds.length cj (ints (plcs ds ds.length)), .row 2 1 (sM b54) mem.toNat mem.toNat (ints (lyT (nmsTo cs cs.length) (dataTo ds ds.length) mem.toNat ds))] := M170.cast (by rw [show jr = ds.length by omega, ← lay_two hw (by omega) ds.length (Nat.le_refl _), ← lyT_fit (by omega)])
 exact ⟨Aj, cj, .inr ⟨by omega, b54, rfl, M171⟩⟩
end Go.Proofs.Ytdcgcjibgihbbaa
namespace Go.Proofs.Ytdcgcjibgihbbaa
open Go.Mor
theorem rend_c (X : RX) (z : ZSt) (oA : Option Addr) (oc : Nat) (w : World) (hX : X.WF) (hG : ZGood X z) (hR : (Res.pk (rwnL X z oA oc)).holds w) (k c : Int) :
    Calls Try.prog 41 #[(pT X.r 0), (vI k), (vI c)] w (Ret fun v w' => v = .tuple #[] ∧ Mem (xS X z oA oc) w w' (rwnL X (z.fin k c) oA oc)) := by
 refine zen 24 [(pT X.r 0), (vI k), (vI c)] Try.func41 ?_
 have hM := Mem.unpk hR
 refine zsr <| zpn 3 <| zld ⟨X.r, 10, none⟩ (.bool z.ov) (blk_cell (hM.get 0 rfl) rfl) <| zpn 1 <| zfe <| zcP (!z.ov) (¬ (z.ov = true)) (by simp only [notT]) (fun c1 => ?_) (fun c1 => ?_)
 replace c1 : z.ov = false := Bool.eq_false_iff.2 c1
 refine zsr <| zpn 3 <| zsb (ho := (by simp)) hM 0 10 (.bool true) rfl fun w2 M3 => ?_
 replace M3 := M3.nf
 clear hM
 refine zfe <| zsr <| zpn 5 <| zsb (ho := (by simp)) M3 0 6 (vI k) rfl fun w4 M5 => ?_
 replace M5 := M5.nf
 refine zfe <| zrg <| zpn 5 <| zsb (ho := (by simp)) M5 0 7 (vI c) rfl fun w6 M7 => ?_
 replace M7 := M7.nf
 refine zfe <| zo0 ?_
 exact ⟨rfl, by rw [fin_new c1]; exact M7⟩
 replace c1 : z.ov = true := Classical.not_not.1 c1
 refine zsk <| zo0 ?_
 exact ⟨rfl, by rw [fin_of c1]; exact hM⟩
theorem rstep_c (X : RX) (z : ZSt) (oA : Option Addr) (oc : Nat) (w : World) (hX : X.WF) (hG : ZGood X z) (hR : (Res.pk (rwnL X z oA oc)).holds w)  :
    Calls Try.prog 82 #[(pT X.r 0)] w (Ret fun v w' => ∃ b z' oA' oc', v = .bool b ∧ z'.ov = (!b) ∧ ZGood X z' ∧ Eqv (z.go (stepS X.E.toEnv0)) (z'.go (Got.ok ())) ∧ Mem (xS X z oA oc) w w' (rwnL X z' oA' oc')) := by
 have g1 := hG.s1
 have g2 := hG.s2
 have g3 := hX.fuel
 refine zen 35 [(pT X.r 0)] Try.func82 ?_
 have hM := Mem.unpk hR
 refine zsp <| zsq <| zsq ?_
 cases hz : z.ov
 have M1 : Mem (xS X z oA oc) w w [.blk X.r 75 [(vS X.dA X.ds.length X.dc), (vS X.pA X.ds.length X.pc), (vS (sM X.mG) X.E.memN X.E.memN), (vI z.s.next), (vS X.iA X.E.inp.length X.ic), (vI (z.s.pos : Int)), (vI z.k), (vI z.c), (vS oA z.s.out.length oc), (vI z.s.steps), (.bool false), (vI X.E.fuel), (vI z.s.opened), (vS X.fA X.E.tfs.length X.fc), (vI z.N), (vI z.V)], xm_ X z, xo_ z oA oc] := hM.cast (rwn_ov hz)
 clear hM
 refine zkp [(0, (pT X.r 0))] ?_
 intro aC fr
 refine zdt 15 (N := 35) (env0 := [(0, (pT X.r 0))]) (specAt [.det (pT X.r 0), .det (pT X.r 0), .det (.pointer (some ⟨X.r, 10, none⟩)), .det (.bool false), .det (.bool true), .det (.bool true), .det (pT X.r 0), .det (pT X.r 0), .det (.pointer (some ⟨X.r, 6, none⟩)), .det (.pointer (some ⟨X.r, 9, none⟩)), .det (vI z.s.steps), .det (pT X.r 0), .det (pT X.r 0), .det (.pointer (some ⟨X.r, 11, none⟩)), .det (vI X.E.fuel)]) fr (la (la (la (la (la (la (la (la (la (la (la (la (la (la (la lz dP) dP) dP) (dL ⟨X.r, 10, none⟩ (.bool false) fun w_ hK => (blk_cell ((M1.then_ hK).get 0 rfl) rfl))) dP) dP) dP) dP) dP) dP) (dL ⟨X.r, 9, none⟩ (vI z.s.steps) fun w_ hK => (blk_cell ((M1.then_ hK).get 0 rfl) rfl))) dP) dP) dP) (dL ⟨X.r, 11, none⟩ (vI X.E.fuel) fun w_ hK => (blk_cell ((M1.then_ hK).get 0 rfl) rfl))) ?_
 intro aC w6 vs hK hv fr
 revert aC; refine zkp [(0, (pT X.r 0)), (8, (.bool true)), (13, (vI z.s.steps)), (17, (vI X.E.fuel))] ?_
 have M7 := M1.then_ hK
 clear hK hv fr aC M1; clear vs
 refine zpn 2 <| zfe <| zcD ((z.s.steps : Int) ≥ X.E.fuel) (fun c8 => ?_) (fun c8 => ?_)
 refine zrg <| zpn 1 ?_
 have M9 : Mem (xS X z oA oc) w w6 [xb_ X z oA oc, xm_ X z, xo_ z oA oc] := M7.cast (rwn_ov hz).symm
 refine zcl (rend_c X z oA oc w6 hX hG (Mem.pk_holds (l := rwnL X z oA oc) M9) 0 0) ?_
 rintro _ w10 ⟨rfl, M11x⟩
 have M11 : Mem (xS X z oA oc) w w10 [xb_ X (z.fin 0 0) oA oc, xm_ X (z.fin 0 0), xo_ (z.fin 0 0) oA oc] := M9.mdk M11x
 refine zfe <| zsq <| zsr <| zpn 3 <| zld ⟨X.r, 10, none⟩ (.bool (z.fin 0 0).ov) (blk_cell (M11.get 0 rfl) rfl) <| zfe <| zcP ((z.fin 0 0).ov) (((z.fin 0 0).ov) = true) Iff.rfl (fun c12 => ?_) (fun c12 => ?_)
 refine zsp <| zre <| zo1 (.bool false) ?_
 exact ⟨false, (z.fin 0 0), oA, oc, rfl, fin_ov, hG.fin, Eqv.fin (K := stepS X.E.toEnv0) rfl (fun h_ => by unfold stepS; rw [if_pos (by have := hG.s2; omega)]; rfl), M11⟩
 replace c12 : ((z.fin 0 0).ov) = false := Bool.eq_false_iff.2 c12
 rw [fin_ov] at c12; cases c12
 refine zsk <| zsq <| zsr <| zpn 3 <| zld ⟨X.r, 10, none⟩ (.bool false) (blk_cell (M7.get 0 rfl) rfl) <| zfe <| zcF <| zsk <| zsr <| zpn 4 ?_
 refine zld ⟨X.r, 9, none⟩ (vI z.s.steps) (blk_cell (M7.get 0 rfl) rfl) <| zar (z.s.steps + 1) <| zpn 3 <| zsb (ho := (by simp)) M7 0 9 (vI (z.s.steps + 1)) rfl fun w13 M14 => ?_
 replace M14 := M14.nf
 refine zfe <| zsp <| zre <| zo1 (.bool true) ?_
 exact ⟨true, { z with s := { z.s with steps := z.s.steps + 1 } }, oA, oc, rfl, hz, hG.step (by omega), Eqv.to (K := stepS X.E.toEnv0) rfl hz hz (by unfold stepS; rw [if_neg (by omega)]), (M14.cast (rwn_ov (z := { z with s := { z.s with steps := z.s.steps + 1 } }) hz).symm)⟩
 have M15 : Mem (xS X z oA oc) w w [.blk X.r 75 [(vS X.dA X.ds.length X.dc), (vS X.pA X.ds.length X.pc), (vS (sM X.mG) X.E.memN X.E.memN), (vI z.s.next), (vS X.iA X.E.inp.length X.ic), (vI (z.s.pos : Int)), (vI z.k), (vI z.c), (vS oA z.s.out.length oc), (vI z.s.steps), (.bool true), (vI X.E.fuel), (vI z.s.opened), (vS X.fA X.E.tfs.length X.fc), (vI z.N), (vI z.V)], xm_ X z, xo_ z oA oc] := hM.cast (rwn_ov hz)
 clear hM
 refine zkp [(0, (pT X.r 0))] ?_
 intro aC fr
 refine zdt 15 (N := 35) (env0 := [(0, (pT X.r 0))]) (specAt [.det (pT X.r 0), .det (pT X.r 0), .det (.pointer (some ⟨X.r, 10, none⟩)), .det (.bool true), .det (.bool false), .det (.bool false), dU, dU, dU, dU, dU, dU, dU, dU, dU]) fr (la (la (la (la (la (la (la (la (la (la (la (la (la (la (la lz dP) dP) dP) (dL ⟨X.r, 10, none⟩ (.bool true) fun w_ hK => (blk_cell ((M15.then_ hK).get 0 rfl) rfl))) dP) dP) dK) dK) dK) dK) dK) dK) dK) dK) dK) ?_
 intro aC w20 vs hK hv fr
 revert aC; refine zkp [(0, (pT X.r 0)), (8, (.bool false))] ?_
 have M21 := M15.then_ hK
 clear hK hv fr aC M15; clear vs
 refine zpn 2 <| zfe <| zcF <| zsk <| zsq <| zsr <| zpn 3 <| zld ⟨X.r, 10, none⟩ (.bool true) (blk_cell (M21.get 0 rfl) rfl) <| zfe <| zcT ?_
 refine zsp <| zre <| zo1 (.bool false) ?_
 exact ⟨false, z, oA, oc, rfl, hz, hG, Eqv.over hz (K := stepS X.E.toEnv0) rfl, (M21.cast (rwn_ov hz).symm)⟩
theorem rnumber_c (X : RX) (z : ZSt) (oA : Option Addr) (oc : Nat) (w : World) (hX : X.WF) (hRb : RO noS w (.blk X.r 75 (xcells X z oA oc))) (hA : RO noS w X.ro) (nm : ByteArray) :
    Calls Try.prog 40 #[(pT X.r 0), (.string nm)] w (Ret fun v w' => v = .int .i64 ((lkp X.E.names nm).getD 0) ∧ Mem noS w w' []) := by
 have hnf := hX.nfns
 refine zen 27 [(pT X.r 0), (.string nm)] Try.func40 ?_
 have hM := Mem.init w
 refine zsp <| zsq <| zsp <| zbk 0 ?_
 intro aC fr
 refine zlp (fun n_ a_ w_ => ∃ (j : Nat), n_ = X.E.tfs.length - j ∧ Fr a_ 27 [(0, (pT X.r 0)), (1, (.string nm)), (5, (nV j))] ∧ Mem noS w w_ [] ∧ (j ≤ X.E.tfs.length) ∧ (NoK TFn.nm X.E.tfs nm j)) (n := _) ⟨0, rfl, fr.kp [0, 1, 5], hM, Nat.zero_le _, NoK.zero⟩ ?_
 clear fr aC hM; rintro n aC w3 ⟨j, rfl, fr, M4, hj, hno⟩
 revert aC
 refine zsq <| zsr <| zpn 4 <| zld ⟨X.r, 13, none⟩ (vS X.fA X.E.tfs.length X.fc) (blk_cell (M4.ro hRb) rfl) <| zpn 2 <| zfe <| zcD (((j : Int) : Int) < ((X.E.tfs.length : Nat) : Int)) (fun c7 => ?_) (fun c7 => ?_)
 refine zsk <| zsq <| zbk 1 <| zsr ?_
 obtain ⟨f, hf⟩ := get_of (l := X.E.tfs) (i := j) (by omega)
 refine zpn 3 <| zld ⟨X.r, 13, none⟩ (vS X.fA X.E.tfs.length X.fc) (blk_cell (M4.ro hRb) rfl) <| zpn 1 ?_
 obtain ⟨ad8, had9⟩ := rds_some (M4.ro hA.xfns) (cs := f.cells) (i := j) (gm hf)
 intro aC fr
 refine From_ixA (some 20) X.fA ad8 X.E.tfs.length 5 (j : Int) fr (by kernel_rfl) had9 (by omega) (by omega) ?_
 intro aC fr
 revert aC
 refine zpn 1 ?_
 refine zld ((ad8 : Addr).add (((j : Int)).toNat * 5)) (.string f.nm) (rds_get (M4.ro hA.xfns) had9 (i := j) (cs := f.cells) (gm hf) 0 _ rfl) ?_
 refine zpn 2 <| zfe <| zcP ((f.nm : ByteArray).toList == (nm : ByteArray).toList) ((f.nm).toList = (nm).toList) (by simp only [beq_iff_eq]) (fun c14 => ?_) (fun c14 => ?_)
 refine zsr <| zpn 1 <| zar ((j : Int) + 1) <| zkp [(26, (vI ((j : Int) + 1)))] <| zpn 1 <| zfe <| zre <| zbr <| zbr <| zo1 (vI ((j : Int) + 1)) ?_
 exact ⟨by rw [hX.names, nms_at hf c14 hno]; rfl, M4⟩
 refine zsk <| zrg <| zpn 1 <| zar ((j : Int) + 1) <| zkp [(0, (pT X.r 0)), (1, (.string nm)), (14, (vI ((j : Int) + 1)))] <| zpn 1 <| zfe ?_
 intro aC fr
 exact ⟨X.E.tfs.length - (j + 1), by omega, j + 1, rfl, fr.kp [0, 1, 5], M4, by omega, hno.next hf c14⟩
 refine zex 0 <| zbh <| zsr ?_
 obtain rfl : j = X.E.tfs.length := by omega
 refine zpn 1 <| zfe <| zre <| zo1 (vI 0) ?_
 exact ⟨by rw [hX.names, nms_none hno]; rfl, M4⟩
theorem rplace_c (X : RX) (z : ZSt) (oA : Option Addr) (oc : Nat) (w : World) (hX : X.WF) (hRb : RO noS w (.blk X.r 75 (xcells X z oA oc))) (hA : RO noS w X.ro) (nm : ByteArray) :
    Calls Try.prog 58 #[(pT X.r 0), (.string nm)] w (Ret fun v w' => v = .int .i64 ((lkp X.E.data nm).getD 0) ∧ Mem noS w w' []) := by
 have hnf := hX.nds
 refine zen 32 [(pT X.r 0), (.string nm)] Try.func58 ?_
 have hM := Mem.init w
 refine zsp <| zsq <| zsp <| zbk 0 ?_
 intro aC fr
 refine zlp (fun n_ a_ w_ => ∃ (j : Nat), n_ = X.ds.length - j ∧ Fr a_ 32 [(0, (pT X.r 0)), (1, (.string nm)), (5, (nV j))] ∧ Mem noS w w_ [] ∧ (j ≤ X.ds.length) ∧ (NoK FDat.nm X.ds nm j)) (n := _) ⟨0, rfl, fr.kp [0, 1, 5], hM, Nat.zero_le _, NoK.zero⟩ ?_
 clear fr aC hM; rintro n aC w3 ⟨j, rfl, fr, M4, hj, hno⟩
 revert aC
 refine zsq <| zsr <| zpn 4 <| zld ⟨X.r, 0, none⟩ (vS X.dA X.ds.length X.dc) (blk_cell (M4.ro hRb) rfl) <| zpn 2 <| zfe <| zcD (((j : Int) : Int) < ((X.ds.length : Nat) : Int)) (fun c7 => ?_) (fun c7 => ?_)
 refine zsk <| zsq <| zbk 1 <| zsr ?_
 obtain ⟨d, hd⟩ := get_of (l := X.ds) (i := j) (by omega)
 refine zpn 3 <| zld ⟨X.r, 0, none⟩ (vS X.dA X.ds.length X.dc) (blk_cell (M4.ro hRb) rfl) <| zpn 1 ?_
 obtain ⟨ad8, had9⟩ := rds_some (M4.ro hA.xdat) (cs := d.cells) (i := j) (gm hd)
 intro aC fr
 refine From_ixA (some 20) X.dA ad8 X.ds.length 4 (j : Int) fr (by kernel_rfl) had9 (by omega) (by omega) ?_
 intro aC fr
 revert aC
 refine zpn 1 ?_
 refine zld ((ad8 : Addr).add (((j : Int)).toNat * 4)) (.string d.nm) (rds_get (M4.ro hA.xdat) had9 (i := j) (cs := d.cells) (gm hd) 0 _ rfl) ?_
 refine zpn 2 <| zfe <| zcP ((d.nm : ByteArray).toList == (nm : ByteArray).toList) ((d.nm).toList = (nm).toList) (by simp only [beq_iff_eq]) (fun c14 => ?_) (fun c14 => ?_)
 refine zsr <| zpn 3 <| zld ⟨X.r, 1, none⟩ (vS X.pA X.ds.length X.pc) (blk_cell (M4.ro hRb) rfl) <| zkp [(5, (nV j)), (28, (vS X.pA X.ds.length X.pc))] <| zpn 1 ?_
 obtain ⟨ad15, had16⟩ := rd_some (M4.ro hA.xpl) (by rw [ints_len, plcs_len]; omega)
 intro aC fr
 refine From_ixA (some 30) X.pA ad15 X.ds.length 1 (j : Int) fr (by kernel_rfl) had16 (by omega) (by omega) ?_
 intro aC fr
 revert aC
 refine zld ((ad15 : Addr).add (((j : Int)).toNat * 1)) (vI (nextTo X.ds j : Int)) (rd_at (M4.ro hA.xpl) had16 (plcs_get (by omega))) <| zpn 1 <| zfe <| zre <| zbr <| zbr <| zo1 (vI (nextTo X.ds j : Int)) ?_
 exact ⟨by rw [hX.data, dat_at hd c14 hno]; rfl, M4⟩
 refine zsk <| zrg <| zpn 1 <| zar ((j : Int) + 1) <| zkp [(0, (pT X.r 0)), (1, (.string nm)), (14, (vI ((j : Int) + 1)))] <| zpn 1 <| zfe ?_
 intro aC fr
 exact ⟨X.ds.length - (j + 1), by omega, j + 1, rfl, fr.kp [0, 1, 5], M4, by omega, hno.next hd c14⟩
 refine zex 0 <| zbh <| zsr ?_
 obtain rfl : j = X.ds.length := by omega
 refine zpn 1 <| zfe <| zre <| zo1 (vI 0) ?_
 exact ⟨by rw [hX.data, dat_none hno]; rfl, M4⟩
theorem rcell_c (X : RX) (z : ZSt) (oA : Option Addr) (oc : Nat) (w : World) (hX : X.WF) (hG : ZGood X z) (hR : (Res.pk (rwnL X z oA oc)).holds w) (a n : Int) (ha : In64 a) (hn0 : 0 ≤ n) (hn1 : n ≤ 2147483647) :
    Calls Try.prog 84 #[(pT X.r 0), (vI a), (vI n)] w (Ret fun v w' => ∃ x z' oA' oc', v = .int .i64 x ∧ ZGood X z' ∧ ((1 ≤ x ∧ x < z.s.next ∧ z' = z ∧ atS (IntKind.i64.wrap (a + n)) z.s = .ok x.toNat z.s) ∨ (x < 0 ∧ z' = z.fin 5 0 ∧ atS (IntKind.i64.wrap (a + n)) z.s = .stop 5 0 z.s)) ∧ Mem (xS X z oA oc) w w' (rwnL X z' oA' oc')) := by
 have g1 := hG.n1
 have g2 := hG.n2
 have g3 := hX.mem
 have ha1 := ha.1
 have ha2 := ha.2
 refine zen 38 [(pT X.r 0), (vI a), (vI n)] Try.func84 ?_
 have hM := Mem.unpk hR
 refine zsp <| zsq <| zsr <| zpn 3 ?_
 obtain ⟨B1, hB1⟩ : ∃ B : Bool, B = decide ((a : Int) < (-2147483647)) := ⟨_, rfl⟩
 refine zkp [(0, (pT X.r 0)), (1, (vI a)), (2, (vI n)), (9, (.bool (decide ((a : Int) < (-2147483647)))))] ?_
 rw [← hB1]
 have iB1 : B1 = true ↔ ((a : Int) < (-2147483647)) := by rw [hB1]; simp only [decide_eq_true_eq]
 clear hB1
 intro aC fr
 refine zpk 4 7 [10, 13] fr (news := [(10, (cond (!B1) (vI a) undef)), (13, (cond (!B1) (.pointer (some ⟨X.r, 3, none⟩)) undef))]) (by cases B1 <;> kernel_rfl) ?_
 intro aC fr
 refine From_either (B := (!B1)) (d := (some 14)) (vI z.s.next) fr (by cases B1 <;> kernel_rfl) (fun hB hh => ?_) ?_
 cases B1 <;> try exact absurd hB (by decide)
 have c1 : ¬ ((a : Int) < (-2147483647)) := (fun h => Bool.noConfusion (iB1.2 h) : ¬ ((a : Int) < (-2147483647)))
 exact From_ld (some 14) ⟨X.r, 3, none⟩ fr (by kernel_rfl) (vI z.s.next) (blk_cell (hM.get 0 rfl) rfl) hh
 intro aC fr
 refine zpk 3 11 [16, 17] fr (news := [(16, (.bool (B1 || decide ((a : Int) > z.s.next)))), (17, (.bool (B1 || decide ((a : Int) > z.s.next))))]) (by cases B1 <;> kernel_rfl) ?_
 intro aC fr
 obtain ⟨B10, hB10⟩ : ∃ B : Bool, B = (B1 || decide ((a : Int) > z.s.next)) := ⟨_, rfl⟩
 revert aC
 refine zkp [(0, (pT X.r 0)), (1, (vI a)), (2, (vI n)), (17, (.bool (B1 || decide ((a : Int) > z.s.next))))] ?_
 rw [← hB10]
 have iB10 : B10 = true ↔ (((a : Int) < (-2147483647)) ∨ ((a : Int) > z.s.next)) := by rw [hB10]; simp only [Bool.or_eq_true, decide_eq_true_eq, iB1]
 clear hB10
 intro aC fr
 refine zpk 2 13 [18, 19] fr (news := [(18, (cond (!B10) (vI a) undef)), (19, (cond (!B10) (vI n) undef))]) (by cases B10 <;> kernel_rfl) ?_
 intro aC fr
 refine From_either (B := (!B10)) (d := (some 20)) (vI (a + n)) fr (by cases B10 <;> kernel_rfl) (fun hB hh => ?_) ?_
 cases B10 <;> try exact absurd hB (by decide)
 have c10 : ¬ (((a : Int) < (-2147483647)) ∨ ((a : Int) > z.s.next)) := (fun h => Bool.noConfusion (iB10.2 h) : ¬ (((a : Int) < (-2147483647)) ∨ ((a : Int) > z.s.next)))
 exact From_ar (some 20) (a + n) fr (z0 := a + n) (by kernel_rfl) rfl (by omega) (by omega) hh
 intro aC fr
 refine zpk 3 17 [22, 23] fr (news := [(22, (.bool (B10 || decide (((a + n) : Int) < 1)))), (23, (.bool (B10 || decide (((a + n) : Int) < 1))))]) (by cases B10 <;> kernel_rfl) ?_
 intro aC fr
 obtain ⟨B19, hB19⟩ : ∃ B : Bool, B = (B10 || decide (((a + n) : Int) < 1)) := ⟨_, rfl⟩
 revert aC
 refine zkp [(0, (pT X.r 0)), (1, (vI a)), (2, (vI n)), (23, (.bool (B10 || decide (((a + n) : Int) < 1))))] ?_
 rw [← hB19]
 have iB19 : B19 = true ↔ ((((a : Int) < (-2147483647)) ∨ ((a : Int) > z.s.next)) ∨ (((a + n) : Int) < 1)) := by rw [hB19]; simp only [Bool.or_eq_true, decide_eq_true_eq, iB10]
 clear hB19
 intro aC fr
 refine zpk 2 19 [24, 25] fr (news := [(24, (cond (!B19) (vI a) undef)), (25, (cond (!B19) (vI n) undef))]) (by cases B19 <;> kernel_rfl) ?_
 intro aC fr
 refine From_either (B := (!B19)) (d := (some 26)) (vI (a + n)) fr (by cases B19 <;> kernel_rfl) (fun hB hh => ?_) ?_
 cases B19 <;> try exact absurd hB (by decide)
 have c19 : ¬ ((((a : Int) < (-2147483647)) ∨ ((a : Int) > z.s.next)) ∨ (((a + n) : Int) < 1)) := (fun h => Bool.noConfusion (iB19.2 h) : ¬ ((((a : Int) < (-2147483647)) ∨ ((a : Int) > z.s.next)) ∨ (((a + n) : Int) < 1)))
 exact From_ar (some 26) (a + n) fr (z0 := a + n) (by kernel_rfl) rfl (by omega) (by omega) hh
 intro aC fr
 refine zpk 3 23 [29] fr (news := [(29, (cond (!B19) (.pointer (some ⟨X.r, 3, none⟩)) undef))]) (by cases B19 <;> kernel_rfl) ?_
 intro aC fr
 refine From_either (B := (!B19)) (d := (some 30)) (vI z.s.next) fr (by cases B19 <;> kernel_rfl) (fun hB hh => ?_) ?_
 cases B19 <;> try exact absurd hB (by decide)
 have c19 : ¬ ((((a : Int) < (-2147483647)) ∨ ((a : Int) > z.s.next)) ∨ (((a + n) : Int) < 1)) := (fun h => Bool.noConfusion (iB19.2 h) : ¬ ((((a : Int) < (-2147483647)) ∨ ((a : Int) > z.s.next)) ∨ (((a + n) : Int) < 1)))
 exact From_ld (some 30) ⟨X.r, 3, none⟩ fr (by kernel_rfl) (vI z.s.next) (blk_cell (hM.get 0 rfl) rfl) hh
 intro aC fr
 refine zpk 2 26 [32] fr (news := [(32, (.bool (B19 || decide (((a + n) : Int) ≥ z.s.next))))]) (by cases B19 <;> kernel_rfl) ?_
 intro aC fr
 revert aC
 refine zfe <| zcP (B19 || decide (((a + n) : Int) ≥ z.s.next)) (((((a : Int) < (-2147483647)) ∨ ((a : Int) > z.s.next)) ∨ (((a + n) : Int) < 1)) ∨ (((a + n) : Int) ≥ z.s.next)) (by simp only [Bool.or_eq_true, decide_eq_true_eq, iB19]) (fun c32 => ?_) (fun c32 => ?_)
 refine zsr <| zpn 1 <| zcl (rend_c X z oA oc w hX hG (Mem.pk_holds (l := rwnL X z oA oc) hM) 5 0) ?_
 rintro _ w33 ⟨rfl, M34x⟩
 have M34 : Mem (xS X z oA oc) w w33 [xb_ X (z.fin 5 0) oA oc, xm_ X (z.fin 5 0), xo_ (z.fin 5 0) oA oc] := hM.mdk M34x
 clear M34x hM
 refine zfe <| zsp <| zre <| zo1 (vI (-1)) ?_
 exact ⟨-1, (z.fin 5 0), oA, oc, rfl, hG.fin, .inr ⟨by omega, rfl, cell_no ha hn0 hn1 (by omega) g1 (by omega)⟩, M34⟩
 refine zsk <| zsr <| zpn 2 <| zar (a + n) <| zpn 1 <| zfe <| zre <| zo1 (vI (a + n)) ?_
 exact ⟨a + n, z, oA, oc, rfl, hG, .inl ⟨by omega, by omega, rfl, cell_yes (by omega) (by omega) (by omega) (by omega) (by omega)⟩, hM⟩
theorem ralloc_c (X : RX) (z : ZSt) (oA : Option Addr) (oc : Nat) (w : World) (hX : X.WF) (hG : ZGood X z) (hR : (Res.pk (rwnL X z oA oc)).holds w) (n : Int) (hz : z.ov = false) :
    Calls Try.prog 103 #[(pT X.r 0), (vI n)] w (Ret fun v w' => XV X (xS X z oA oc) w z (allocS X.E.toEnv0 n) v w') := by
 have g1 := hG.n1
 have g2 := hG.n2
 have g3 := hX.mem
 refine zen 38 [(pT X.r 0), (vI n)] Try.func103 ?_
 have hM := Mem.unpk hR
 refine zsp <| zsq <| zsp <| zcD ((n : Int) < 0) (fun c1 => ?_) (fun c1 => ?_)
 refine zsr <| zpn 1 <| zcl (rend_c X z oA oc w hX hG (Mem.pk_holds (l := rwnL X z oA oc) hM) 5 0) ?_
 rintro _ w2 ⟨rfl, M3x⟩
 have M3 : Mem (xS X z oA oc) w w2 [xb_ X (z.fin 5 0) oA oc, xm_ X (z.fin 5 0), xo_ (z.fin 5 0) oA oc] := hM.mdk M3x
 clear M3x hM
 refine zfe <| zsp <| zre <| zo1 (vI 0) ?_
 exact ⟨0, (z.fin 5 0), oA, oc, rfl, hG.fin, Eqv.fin (K := allocS X.E.toEnv0 n) rfl (fun _ => by unfold allocS; first | rw [if_pos (by omega)]; rfl | rw [if_neg (by omega), if_pos (by omega)]; rfl), M3⟩
 refine zsk <| zsq <| zsq ?_
 obtain ⟨B4, hB4⟩ : ∃ B : Bool, B = decide (n > (((X.E.memN : Nat) : Int) - z.s.next)) := ⟨_, rfl⟩
 refine zkp [(0, (pT X.r 0)), (1, (vI n))] ?_
 intro aC fr
 refine zdr (N := 38) (env0 := [(0, (pT X.r 0)), (1, (vI n))]) (specAt [.det (vI n), .det (pT X.r 0), .det (pT X.r 0), .det (.pointer (some ⟨X.r, 2, none⟩)), .det (vS (sM X.mG) X.E.memN X.E.memN), .det (vI ((X.E.memN : Nat) : Int)), .det (pT X.r 0), .det (pT X.r 0), .det (.pointer (some ⟨X.r, 3, none⟩)), .det (vI z.s.next), .det (vI (((X.E.memN : Nat) : Int) - z.s.next)), .det (.bool B4)]) fr (la (la (la (la (la (la (la (la (la (la (la (la lz dP) dP) dP) dP) (dL ⟨X.r, 2, none⟩ (vS (sM X.mG) X.E.memN X.E.memN) fun w_ hK => (blk_cell ((hM.then_ hK).get 0 rfl) rfl))) dP) dP) dP) dP) (dL ⟨X.r, 3, none⟩ (vI z.s.next) fun w_ hK => (blk_cell ((hM.then_ hK).get 0 rfl) rfl))) (dA (((X.E.memN : Nat) : Int) - z.s.next))) (dC (decide (n > (((X.E.memN : Nat) : Int) - z.s.next))) hB4)) ?_
 intro aC w9 vs hK hv fr
 revert aC; refine zkp [(0, (pT X.r 0)), (1, (vI n)), (21, (.bool B4))] ?_
 have M10 := hM.then_ hK
 clear hK hv fr aC hM; clear vs
 have iB4 : B4 = true ↔ ((n : Int) > (((X.E.memN : Nat) : Int) - z.s.next)) := by rw [hB4]; simp only [decide_eq_true_eq]
 clear hB4
 refine zcP B4 ((n : Int) > (((X.E.memN : Nat) : Int) - z.s.next)) iB4 (fun c11 => ?_) (fun c11 => ?_)
 refine zsr <| zpn 1 <| zcl (rend_c X z oA oc w9 hX hG (Mem.pk_holds (l := rwnL X z oA oc) M10) 3 0) ?_
 rintro _ w12 ⟨rfl, M13x⟩
 have M13 : Mem (xS X z oA oc) w w12 [xb_ X (z.fin 3 0) oA oc, xm_ X (z.fin 3 0), xo_ (z.fin 3 0) oA oc] := M10.mdk M13x
 refine zfe <| zsp <| zre <| zo1 (vI 0) ?_
 exact ⟨0, (z.fin 3 0), oA, oc, rfl, hG.fin, Eqv.fin (K := allocS X.E.toEnv0 n) rfl (fun _ => by unfold allocS; first | rw [if_pos (by omega)]; rfl | rw [if_neg (by omega), if_pos (by omega)]; rfl), M13⟩
 refine zsk <| zsr <| zpn 3 <| zld ⟨X.r, 3, none⟩ (vI z.s.next) (blk_cell (M10.get 0 rfl) rfl) <| zpn 1 <| zfe <| zsr <| zpn 4 <| zld ⟨X.r, 3, none⟩ (vI z.s.next) (blk_cell (M10.get 0 rfl) rfl) <| zpn 1 ?_
 refine zar (z.s.next + n) <| zpn 2 <| zsb (ho := (by simp)) M10 0 3 (vI (z.s.next + n)) rfl fun w14 M15 => ?_
 replace M15 := M15.nf
 refine zfe <| zsp <| zre <| zo1 (vI z.s.next) ?_
 exact ⟨z.s.next, { z with s := { z.s with next := z.s.next + n } }, oA, oc, rfl, hG.take (by omega) (by omega), Eqv.to (K := allocS X.E.toEnv0 n) rfl hz hz (by unfold allocS; rw [if_neg (by omega), if_neg (by omega)]), M15⟩
theorem rread_c (X : RX) (z : ZSt) (oA : Option Addr) (oc : Nat) (w : World) (hX : X.WF) (hG : ZGood X z) (hR : (Res.pk (rwnL X z oA oc)).holds w) (hA : RO (xS X z oA oc) w X.ro)  (hz : z.ov = false) :
    Calls Try.prog 104 #[(pT X.r 0)] w (Ret fun v w' => XV X (xS X z oA oc) w z (readS X.E.toEnv0) v w') := by
 have g1 := hG.pos
 have g2 := hX.inp
 refine zen 32 [(pT X.r 0)] Try.func104 ?_
 have hM := Mem.unpk hR
 refine zsp <| zsq <| zsq ?_
 obtain ⟨B1, hB1⟩ : ∃ B : Bool, B = decide ((z.s.pos : Int) ≥ ((X.E.inp.length : Nat) : Int)) := ⟨_, rfl⟩
 refine zkp [(0, (pT X.r 0))] ?_
 intro aC fr
 refine zdr (N := 32) (env0 := [(0, (pT X.r 0))]) (specAt [.det (pT X.r 0), .det (pT X.r 0), .det (.pointer (some ⟨X.r, 5, none⟩)), .det (vI (z.s.pos : Int)), .det (pT X.r 0), .det (pT X.r 0), .det (.pointer (some ⟨X.r, 4, none⟩)), .det (vS X.iA X.E.inp.length X.ic), .det (vI ((X.E.inp.length : Nat) : Int)), .det (.bool B1)]) fr (la (la (la (la (la (la (la (la (la (la lz dP) dP) dP) (dL ⟨X.r, 5, none⟩ (vI (z.s.pos : Int)) fun w_ hK => (blk_cell ((hM.then_ hK).get 0 rfl) rfl))) dP) dP) dP) (dL ⟨X.r, 4, none⟩ (vS X.iA X.E.inp.length X.ic) fun w_ hK => (blk_cell ((hM.then_ hK).get 0 rfl) rfl))) dP) (dC (decide ((z.s.pos : Int) ≥ ((X.E.inp.length : Nat) : Int))) hB1)) ?_
 intro aC w6 vs hK hv fr
 revert aC; refine zkp [(0, (pT X.r 0)), (12, (.bool B1))] ?_
 have M7 := hM.then_ hK
 clear hK hv fr aC hM; clear vs
 have iB1 : B1 = true ↔ (((z.s.pos : Int) : Int) ≥ ((X.E.inp.length : Nat) : Int)) := by rw [hB1]; simp only [decide_eq_true_eq]
 clear hB1
 refine zcP B1 (((z.s.pos : Int) : Int) ≥ ((X.E.inp.length : Nat) : Int)) iB1 (fun c8 => ?_) (fun c8 => ?_)
 refine zsp <| zre <| zo1 (vI (-1)) ?_
 exact ⟨-1, z, oA, oc, rfl, hG, Eqv.to (K := readS X.E.toEnv0) rfl hz hz (by unfold readS; rw [if_neg (by omega)]), M7⟩
 refine zsk <| zsr <| zpn 3 <| zld ⟨X.r, 5, none⟩ (vI (z.s.pos : Int)) (blk_cell (M7.get 0 rfl) rfl) <| zar ((z.s.pos : Int) + 1) <| zpn 2 <| zsb (ho := (by simp)) M7 0 5 (vI ((z.s.pos : Int) + 1)) rfl fun w9 M10 => ?_
 replace M10 := M10.nf
 refine zfe <| zsq <| zkp [(0, (pT X.r 0))] ?_
 intro aC fr
 refine zdt 9 (N := 32) (env0 := [(0, (pT X.r 0))]) (specAt [.det (pT X.r 0), .det (pT X.r 0), .det (.pointer (some ⟨X.r, 4, none⟩)), .det (vS X.iA X.E.inp.length X.ic), .det (pT X.r 0), .det (pT X.r 0), .det (.pointer (some ⟨X.r, 5, none⟩)), .det (vI ((z.s.pos : Int) + 1)), .det (vI (((z.s.pos : Int) + 1) - 1))]) fr (la (la (la (la (la (la (la (la (la lz dP) dP) dP) (dL ⟨X.r, 4, none⟩ (vS X.iA X.E.inp.length X.ic) fun w_ hK => (blk_cell ((M10.then_ hK).get 0 rfl) rfl))) dP) dP) dP) (dL ⟨X.r, 5, none⟩ (vI ((z.s.pos : Int) + 1)) fun w_ hK => (blk_cell ((M10.then_ hK).get 0 rfl) rfl))) (dA (((z.s.pos : Int) + 1) - 1))) ?_
 intro aC w15 vs hK hv fr
 revert aC; refine zkp [(23, (vS X.iA X.E.inp.length X.ic)), (28, (vI (((z.s.pos : Int) + 1) - 1)))] ?_
 have M16 := M10.then_ hK
 clear hK hv fr aC M10; clear vs
 obtain ⟨ad17, had18⟩ := rd_some (M16.ro hA.xin) (by rw [u8s_len]; omega)
 intro aC fr
 refine From_ixA (some 29) X.iA ad17 X.E.inp.length 1 (((z.s.pos : Int) + 1) - 1) fr (by kernel_rfl) had18 (by omega) (by omega) ?_
 intro aC fr
 revert aC
 refine zld ((ad17 : Addr).add (((((z.s.pos : Int) + 1) - 1)).toNat * 1)) (.int .u8 (X.E.inp.getD z.s.pos 0)) (xin_cell (M16.ro hA.xin) had18 (by omega)) <| zcv (hz := (IntWalk.i64_in _ (by have := xbyte_in hX (p := z.s.pos); omega))) (X.E.inp.getD z.s.pos 0) .i64 (X.E.inp.getD z.s.pos 0) <| zpn 1 <| zfe <| zre <| zo1 (vI (X.E.inp.getD z.s.pos 0)) ?_
 exact ⟨_, { z with s := { z.s with pos := z.s.pos + 1 } }, oA, oc, rfl, hG.read (by omega), Eqv.to (K := readS X.E.toEnv0) rfl hz hz (by unfold readS; rw [if_pos (by omega)]), M16⟩
theorem rwrite_c (X : RX) (z : ZSt) (oA : Option Addr) (oc : Nat) (w : World) (hX : X.WF) (hG : ZGood X z) (hR : (Res.pk (rwnL X z oA oc)).holds w) (u : Int) :
    Calls Try.prog 85 #[(pT X.r 0), (vI u)] w (Ret fun v w' => ∃ z' oA' oc', v = .tuple #[] ∧ ZGood X z' ∧ z'.ov = z.ov ∧ z'.s = writeS u z.s ∧ Mem (xS X z oA oc) w w' (rwnL X z' oA' oc')) := by
 have g1 := hG.out
 refine zen 24 [(pT X.r 0), (vI u)] Try.func85 ?_
 have hM := Mem.unpk hR
 refine zsr <| zpn 4 <| zld ⟨X.r, 8, none⟩ (vS oA z.s.out.length oc) (blk_cell (hM.get 0 rfl) rfl) <| zpn 2 <| zfe <| zcD ((((z.s.out.length : Nat) : Int) : Int) < 4096) (fun c1 => ?_) (fun c1 => ?_)
 refine zrg <| zpn 5 <| zld ⟨X.r, 8, none⟩ (vS oA z.s.out.length oc) (blk_cell (hM.get 0 rfl) rfl) <| zpn 1 <| zcv (hz := rfl) u .u8 (IntKind.u8.wrap u) ?_
 intro aC fr
 refine zBs 19 34 1 #[(0, (.tmp 18))] 34 fr (e := 5) (size := 1) (zs := [(.int .u8 0)]) (vs := [(0, (.int .u8 (IntKind.u8.wrap u)))]) (cs := [(.int .u8 (IntKind.u8.wrap u))]) hM ?_
 intro b2 w3 hb2 _ M4 _ aC ea fr; clear ea
 replace M4 := M4.nf
 clear hM
 refine zAN 20 (.tmp 16) (.tmp 19) 34 34 fr (e := 5) (size := 1) (bytes := 1) (z := (.int .u8 0)) (A := oA) (B := (sM b2)) (n := z.s.out.length) (cap := oc) (m := 1) (cap' := 1) (xs := (u8s z.s.out)) (news := [(.int .u8 (IntKind.u8.wrap u))]) M4 2 rfl (row_rd (M4.get 3 rfl)) rfl (by simp [Value.oneCell']) (by omega) (by simp only [maxLen]; omega) ((z.s.out ++ [IntKind.u8.wrap u]).length) (u8s (z.s.out ++ [IntKind.u8.wrap u])) (by rw [List.length_append]; rfl) (by rw [u8s_append]; rfl) ?_
 intro A9 c10 w11 M12 _ aC ea fr; clear ea
 replace M12 := M12.nf
 have M15 := M12.od [2, 2, 2] 3
 revert aC
 refine zpn 3 <| zsb (ho := (by simp)) M15 0 8 (vS A9 (z.s.out ++ [IntKind.u8.wrap u]).length c10) rfl fun w16 M17 => ?_
 replace M17 := M17.nf
 refine zfe <| zo0 ?_
 exact ⟨{ z with s := { z.s with out := (z.s.out ++ [IntKind.u8.wrap u]) } }, A9, c10, rfl, hG.write (by omega) _, rfl, by unfold writeS; rw [if_pos (by omega)], M17⟩
 refine zsk <| zo0 ?_
 exact ⟨z, oA, oc, rfl, hG, rfl, by unfold writeS; rw [if_neg (by omega)], hM⟩
end Go.Proofs.Ytdcgcjibgihbbaa
namespace Go.Proofs.Ytdcgcjibgihbbaa
open Go.Mor
theorem r1one_t (w : World) :
    Calls Try.prog 106 #[(.bool true)] w (Ret fun v w' => v = .int .i64 1 ∧ Mem noS w w' []) := by
 refine zen 4 [(.bool true)] Try.func106 ?_
 have hM := Mem.init w
 refine zsp <| zsq <| zsp <| zcT <| zsp <| zre <| zo1 (vI 1) ?_
 exact ⟨rfl, hM⟩
theorem r1one_f (w : World) :
    Calls Try.prog 106 #[(.bool false)] w (Ret fun v w' => v = .int .i64 0 ∧ Mem noS w w' []) := by
 refine zen 4 [(.bool false)] Try.func106 ?_
 have hM := Mem.init w
 refine zsp <| zsq <| zsp <| zcF <| zsk <| zsp <| zre <| zo1 (vI 0) ?_
 exact ⟨rfl, hM⟩
theorem r1one_c (b : Bool) (w : World) : Calls Try.prog 106 #[.bool b] w (Ret fun v w' => v = .int .i64 (truthI b) ∧ Mem noS w w' []) := by
  cases b
  · exact r1one_f w
  · exact r1one_t w
set_option maxHeartbeats 2000000 in
theorem r1bin_c (op a b : Int) (w : World) :
    Calls Try.prog 105 #[(vI op), (vI a), (vI b)] w (Ret fun v w' => v = .tuple #[.int .i64 (binS op a b).1, .int .i64 (binS op a b).2] ∧ Mem noS w w' []) := by
 refine zen 108 [(vI op), (vI a), (vI b)] Try.func105 ?_
 have hM := Mem.init w
 refine zsp <| zsq <| zsp <| zbk 0 <| zsp <| zcQ op 1 (fun c1 => ?_) (fun c1 => ?_)
 refine zsr <| zpn 2 <| zbi .i64 (IntKind.i64.wrap (a + b)) b <| zpn 2 <| zfe <| zre <| zbr <| zo2 (vI (IntKind.i64.wrap (a + b))) (vI 0) ?_
 refine ⟨?_, hM⟩
 have e_ : binS op a b = ((IntKind.i64.wrap (a + b)), 0) := by
   exact bo1
 rw [e_]
 refine zsp <| zcQ op 2 (fun c2 => ?_) (fun c2 => ?_)
 refine zsr <| zpn 2 <| zbi .i64 (IntKind.i64.wrap (a - b)) b <| zpn 2 <| zfe <| zre <| zbr <| zo2 (vI (IntKind.i64.wrap (a - b))) (vI 0) ?_
 refine ⟨?_, hM⟩
 have e_ : binS op a b = ((IntKind.i64.wrap (a - b)), 0) := by
   exact bo2
 rw [e_]
 refine zsp <| zcQ op 3 (fun c3 => ?_) (fun c3 => ?_)
 refine zsr <| zpn 2 <| zbi .i64 (IntKind.i64.wrap (a * b)) b <| zpn 2 <| zfe <| zre <| zbr <| zo2 (vI (IntKind.i64.wrap (a * b))) (vI 0) ?_
 refine ⟨?_, hM⟩
 have e_ : binS op a b = ((IntKind.i64.wrap (a * b)), 0) := by
   exact bo3
 rw [e_]
 refine zsq <| zsp ?_
 obtain ⟨B4, hB4⟩ : ∃ B : Bool, B = ((op : Int) == 4) := ⟨_, rfl⟩
 refine zkp [(0, (vI op)), (1, (vI a)), (2, (vI b)), (8, (vI op)), (24, (.bool ((op : Int) == 4)))] ?_
 rw [← hB4]
 have iB4 : B4 = true ↔ ((op : Int) = 4) := by rw [hB4]; simp only [beq_iff_eq]
 clear hB4
 cases B4
 have c4 : ¬ ((op : Int) = 4) := (fun h => Bool.noConfusion (iB4.2 h) : ¬ ((op : Int) = 4))
 refine zcF <| zrp <| zcQ op 5 (fun c5 => ?_) (fun c5 => ?_)
 refine zsq <| zsp <| zcQ b 0 (fun c6 => ?_) (fun c6 => ?_)
 refine zsp <| zre <| zbr <| zo2 (vI 0) (vI 3) ?_
 refine ⟨?_, hM⟩
 have e_ : binS op a b = (0, 3) := by
   first | exact bq1 (by omega) (by omega) | exact bq2 (by omega) (by omega) | exact bq3 (by omega) (by omega) | exact bq4 (by omega) (by omega) (by omega) | exact bq5 (by omega) (by omega) (by omega) | exact bin_out (by omega)
 rw [e_]
 refine zsk <| zsq <| zsp <| zcQ b (-1) (fun c7 => ?_) (fun c7 => ?_)
 refine zsq <| zsp <| zcQ op 4 (fun c8 => ?_) (fun c8 => ?_)
 refine zsr <| zpn 1 <| zui .neg a .i64 (IntKind.i64.wrap (0 - a)) <| zpn 2 <| zfe <| zre <| zbr <| zo2 (vI (IntKind.i64.wrap (0 - a))) (vI 0) ?_
 refine ⟨?_, hM⟩
 have e_ : binS op a b = ((IntKind.i64.wrap (0 - a)), 0) := by
   first | exact bq1 (by omega) (by omega) | exact bq2 (by omega) (by omega) | exact bq3 (by omega) (by omega) | exact bq4 (by omega) (by omega) (by omega) | exact bq5 (by omega) (by omega) (by omega) | exact bin_out (by omega)
 rw [e_]
 refine zsk <| zsp <| zre <| zbr <| zo2 (vI 0) (vI 0) ?_
 refine ⟨?_, hM⟩
 have e_ : binS op a b = (0, 0) := by
   first | exact bq1 (by omega) (by omega) | exact bq2 (by omega) (by omega) | exact bq3 (by omega) (by omega) | exact bq4 (by omega) (by omega) (by omega) | exact bq5 (by omega) (by omega) (by omega) | exact bin_out (by omega)
 rw [e_]
 refine zsk <| zsq <| zsp <| zcQ op 4 (fun c9 => ?_) (fun c9 => ?_)
 refine zsr <| zpn 2 <| zbd .i64 (IntKind.i64.wrap (a.tdiv b)) b (by assumption) <| zpn 2 <| zfe <| zre <| zbr <| zo2 (vI (IntKind.i64.wrap (a.tdiv b))) (vI 0) ?_
 refine ⟨?_, hM⟩
 have e_ : binS op a b = ((IntKind.i64.wrap (a.tdiv b)), 0) := by
   first | exact bq1 (by omega) (by omega) | exact bq2 (by omega) (by omega) | exact bq3 (by omega) (by omega) | exact bq4 (by omega) (by omega) (by omega) | exact bq5 (by omega) (by omega) (by omega) | exact bin_out (by omega)
 rw [e_]
 refine zsk <| zsr <| zpn 2 <| zbd .i64 (a.tmod b) b (by assumption) <| zpn 2 <| zfe <| zre <| zbr <| zo2 (vI (a.tmod b)) (vI 0) ?_
 refine ⟨?_, hM⟩
 have e_ : binS op a b = ((a.tmod b), 0) := by
   first | exact bq1 (by omega) (by omega) | exact bq2 (by omega) (by omega) | exact bq3 (by omega) (by omega) | exact bq4 (by omega) (by omega) (by omega) | exact bq5 (by omega) (by omega) (by omega) | exact bin_out (by omega)
 rw [e_]
 refine zsp <| zcQ op 6 (fun c10 => ?_) (fun c10 => ?_)
 refine zsr <| zpn 2 <| zbi .i64 (bAnd a b) b <| zpn 2 <| zfe <| zre <| zbr <| zo2 (vI (bAnd a b)) (vI 0) ?_
 refine ⟨?_, hM⟩
 have e_ : binS op a b = ((bAnd a b), 0) := by
   exact bo6
 rw [e_]
 refine zsp <| zcQ op 7 (fun c11 => ?_) (fun c11 => ?_)
 refine zsr <| zpn 2 <| zbi .i64 (bOr a b) b <| zpn 2 <| zfe <| zre <| zbr <| zo2 (vI (bOr a b)) (vI 0) ?_
 refine ⟨?_, hM⟩
 have e_ : binS op a b = ((bOr a b), 0) := by
   exact bo7
 rw [e_]
 refine zsp <| zcQ op 8 (fun c12 => ?_) (fun c12 => ?_)
 refine zsr <| zpn 2 <| zbi .i64 (bXor a b) b <| zpn 2 <| zfe <| zre <| zbr <| zo2 (vI (bXor a b)) (vI 0) ?_
 refine ⟨?_, hM⟩
 have e_ : binS op a b = ((bXor a b), 0) := by
   exact bo8
 rw [e_]
 refine zsp <| zcQ op 9 (fun c13 => ?_) (fun c13 => ?_)
 refine zsr <| zpn 2 <| zbi .i64 (bAnd b 63) 63 <| zcv (hz := (shN_and b)) (bAnd b 63) .u64 (shN b) <| zbs .i64 .u64 (shlI a (shN b)) (shN b) (shN_nn b) <| zpn 2 <| zfe <| zre <| zbr <| zo2 (vI (shlI a (shN b))) (vI 0) ?_
 refine ⟨?_, hM⟩
 have e_ : binS op a b = ((shlI a (shN b)), 0) := by
   exact bo9
 rw [e_]
 refine zsp <| zcQ op 10 (fun c14 => ?_) (fun c14 => ?_)
 refine zsr <| zpn 2 <| zbi .i64 (bAnd b 63) 63 <| zcv (hz := (shN_and b)) (bAnd b 63) .u64 (shN b) <| zbs .i64 .u64 (shrI a (shN b)) (shN b) (shN_nn b) <| zpn 2 <| zfe <| zre <| zbr <| zo2 (vI (shrI a (shN b))) (vI 0) ?_
 refine ⟨?_, hM⟩
 have e_ : binS op a b = ((shrI a (shN b)), 0) := by
   exact bo10
 rw [e_]
 refine zsp <| zcQ op 11 (fun c15 => ?_) (fun c15 => ?_)
 refine zsr <| zpn 3 <| zcl (r1one_c ((a : Int) == b) w) ?_
 rintro _ w16 ⟨rfl, M17x⟩
 have M17 := hM.cl M17x
 clear M17x hM
 refine zpn 2 <| zfe <| zre <| zbr <| zo2 (vI (truthI ((a : Int) == b))) (vI 0) ?_
 refine ⟨?_, M17⟩
 have e_ : binS op a b = (truthI ((a : Int) == b), 0) := by
   exact bo11
 rw [e_]
 refine zsp <| zcQ op 12 (fun c18 => ?_) (fun c18 => ?_)
 refine zsr <| zpn 3 <| zcl (r1one_c ((a : Int) != b) w) ?_
 rintro _ w19 ⟨rfl, M20x⟩
 have M20 := hM.cl M20x
 clear M20x hM
 refine zpn 2 <| zfe <| zre <| zbr <| zo2 (vI (truthI ((a : Int) != b))) (vI 0) ?_
 refine ⟨?_, M20⟩
 have e_ : binS op a b = (truthI ((a : Int) != b), 0) := by
   exact bo12
 rw [e_]
 refine zsp <| zcQ op 13 (fun c21 => ?_) (fun c21 => ?_)
 refine zsr <| zpn 3 <| zcl (r1one_c (decide ((a : Int) < b)) w) ?_
 rintro _ w22 ⟨rfl, M23x⟩
 have M23 := hM.cl M23x
 clear M23x hM
 refine zpn 2 <| zfe <| zre <| zbr <| zo2 (vI (truthI (decide ((a : Int) < b)))) (vI 0) ?_
 refine ⟨?_, M23⟩
 have e_ : binS op a b = (truthI (decide ((a : Int) < b)), 0) := by
   exact bo13
 rw [e_]
 refine zsp <| zcQ op 14 (fun c24 => ?_) (fun c24 => ?_)
 refine zsr <| zpn 3 <| zcl (r1one_c (decide ((a : Int) ≤ b)) w) ?_
 rintro _ w25 ⟨rfl, M26x⟩
 have M26 := hM.cl M26x
 clear M26x hM
 refine zkp [(95, (vI (truthI (decide ((a : Int) ≤ b)))))] <| zpn 2 <| zfe <| zre <| zbr <| zo2 (vI (truthI (decide ((a : Int) ≤ b)))) (vI 0) ?_
 refine ⟨?_, M26⟩
 have e_ : binS op a b = (truthI (decide ((a : Int) ≤ b)), 0) := by
   exact bo14
 rw [e_]
 refine zsp <| zcQ op 15 (fun c27 => ?_) (fun c27 => ?_)
 refine zsr <| zpn 3 <| zcl (r1one_c (decide ((a : Int) > b)) w) ?_
 rintro _ w28 ⟨rfl, M29x⟩
 have M29 := hM.cl M29x
 clear M29x hM
 refine zkp [(101, (vI (truthI (decide ((a : Int) > b)))))] <| zpn 2 <| zfe <| zre <| zbr <| zo2 (vI (truthI (decide ((a : Int) > b)))) (vI 0) ?_
 refine ⟨?_, M29⟩
 have e_ : binS op a b = (truthI (decide ((a : Int) > b)), 0) := by
   exact bo15
 rw [e_]
 refine zsp <| zcQ op 16 (fun c30 => ?_) (fun c30 => ?_)
 refine zsr <| zpn 3 <| zcl (r1one_c (decide ((a : Int) ≥ b)) w) ?_
 rintro _ w31 ⟨rfl, M32x⟩
 have M32 := hM.cl M32x
 clear M32x hM
 refine zkp [(107, (vI (truthI (decide ((a : Int) ≥ b)))))] <| zpn 2 <| zfe <| zre <| zbr <| zo2 (vI (truthI (decide ((a : Int) ≥ b)))) (vI 0) ?_
 refine ⟨?_, M32⟩
 have e_ : binS op a b = (truthI (decide ((a : Int) ≥ b)), 0) := by
   exact bo16
 rw [e_]
 refine zsk <| zsp <| zre <| zo2 (vI 0) (vI (-1)) ?_
 refine ⟨?_, hM⟩
 have e_ : binS op a b = (0, (-1)) := by
   first | exact bq1 (by omega) (by omega) | exact bq2 (by omega) (by omega) | exact bq3 (by omega) (by omega) | exact bq4 (by omega) (by omega) (by omega) | exact bq5 (by omega) (by omega) (by omega) | exact bin_out (by omega)
 rw [e_]
 have c4 : ((op : Int) = 4) := iB4.1 rfl
 refine zcT <| zsk <| zcT <| zsq <| zsp <| zcQ b 0 (fun c33 => ?_) (fun c33 => ?_)
 refine zsp <| zre <| zbr <| zo2 (vI 0) (vI 3) ?_
 refine ⟨?_, hM⟩
 have e_ : binS op a b = (0, 3) := by
   first | exact bq1 (by omega) (by omega) | exact bq2 (by omega) (by omega) | exact bq3 (by omega) (by omega) | exact bq4 (by omega) (by omega) (by omega) | exact bq5 (by omega) (by omega) (by omega) | exact bin_out (by omega)
 rw [e_]
 refine zsk <| zsq <| zsp <| zcQ b (-1) (fun c34 => ?_) (fun c34 => ?_)
 refine zsq <| zsp <| zcQ op 4 (fun c35 => ?_) (fun c35 => ?_)
 refine zsr <| zpn 1 <| zui .neg a .i64 (IntKind.i64.wrap (0 - a)) <| zpn 2 <| zfe <| zre <| zbr <| zo2 (vI (IntKind.i64.wrap (0 - a))) (vI 0) ?_
 refine ⟨?_, hM⟩
 have e_ : binS op a b = ((IntKind.i64.wrap (0 - a)), 0) := by
   first | exact bq1 (by omega) (by omega) | exact bq2 (by omega) (by omega) | exact bq3 (by omega) (by omega) | exact bq4 (by omega) (by omega) (by omega) | exact bq5 (by omega) (by omega) (by omega) | exact bin_out (by omega)
 rw [e_]
 refine zsk <| zsp <| zre <| zbr <| zo2 (vI 0) (vI 0) ?_
 refine ⟨?_, hM⟩
 have e_ : binS op a b = (0, 0) := by
   first | exact bq1 (by omega) (by omega) | exact bq2 (by omega) (by omega) | exact bq3 (by omega) (by omega) | exact bq4 (by omega) (by omega) (by omega) | exact bq5 (by omega) (by omega) (by omega) | exact bin_out (by omega)
 rw [e_]
 refine zsk <| zsq <| zsp <| zcQ op 4 (fun c36 => ?_) (fun c36 => ?_)
 refine zsr <| zpn 2 <| zbd .i64 (IntKind.i64.wrap (a.tdiv b)) b (by assumption) <| zpn 2 <| zfe <| zre <| zbr <| zo2 (vI (IntKind.i64.wrap (a.tdiv b))) (vI 0) ?_
 refine ⟨?_, hM⟩
 have e_ : binS op a b = ((IntKind.i64.wrap (a.tdiv b)), 0) := by
   first | exact bq1 (by omega) (by omega) | exact bq2 (by omega) (by omega) | exact bq3 (by omega) (by omega) | exact bq4 (by omega) (by omega) (by omega) | exact bq5 (by omega) (by omega) (by omega) | exact bin_out (by omega)
 rw [e_]
 refine zsk <| zsr <| zpn 2 <| zbd .i64 (a.tmod b) b (by assumption) <| zpn 2 <| zfe <| zre <| zbr <| zo2 (vI (a.tmod b)) (vI 0) ?_
 refine ⟨?_, hM⟩
 have e_ : binS op a b = ((a.tmod b), 0) := by
   first | exact bq1 (by omega) (by omega) | exact bq2 (by omega) (by omega) | exact bq3 (by omega) (by omega) | exact bq4 (by omega) (by omega) (by omega) | exact bq5 (by omega) (by omega) (by omega) | exact bin_out (by omega)
 rw [e_]
theorem r1un_c (op a : Int) (w : World) :
    Calls Try.prog 101 #[(vI op), (vI a)] w (Ret fun v w' => v = .tuple #[.int .i64 (unS op a).1, .int .i64 (unS op a).2] ∧ Mem noS w w' []) := by
 refine zen 20 [(vI op), (vI a)] Try.func101 ?_
 have hM := Mem.init w
 refine zsp <| zsq <| zsp <| zbk 0 <| zsp <| zcQ op 1 (fun c1 => ?_) (fun c1 => ?_)
 refine zsr <| zpn 1 <| zui .neg a .i64 (IntKind.i64.wrap (0 - a)) <| zpn 2 <| zfe <| zre <| zbr <| zo2 (vI (IntKind.i64.wrap (0 - a))) (vI 0) ?_
 refine ⟨?_, hM⟩
 have e_ : unS op a = ((IntKind.i64.wrap (0 - a)), 0) := by
   first | exact uo1 | exact uo2 | exact uo3 | exact un_no (by assumption) (by assumption) (by assumption)
 rw [e_]
 refine zsp <| zcQ op 2 (fun c2 => ?_) (fun c2 => ?_)
 refine zsr <| zpn 1 <| zui .xor a .i64 (bXor (-1) a) <| zpn 2 <| zfe <| zre <| zbr <| zo2 (vI (bXor (-1) a)) (vI 0) ?_
 refine ⟨?_, hM⟩
 have e_ : unS op a = ((bXor (-1) a), 0) := by
   first | exact uo1 | exact uo2 | exact uo3 | exact un_no (by assumption) (by assumption) (by assumption)
 rw [e_]
 refine zsp <| zcQ op 3 (fun c3 => ?_) (fun c3 => ?_)
 refine zsr <| zpn 2 <| zcl (r1one_c ((a : Int) == 0) w) ?_
 rintro _ w4 ⟨rfl, M5x⟩
 have M5 := hM.cl M5x
 clear M5x hM
 refine zpn 2 <| zfe <| zre <| zbr <| zo2 (vI (truthI ((a : Int) == 0))) (vI 0) ?_
 refine ⟨?_, M5⟩
 have e_ : unS op a = (truthI ((a : Int) == 0), 0) := by
   first | exact uo1 | exact uo2 | exact uo3 | exact un_no (by assumption) (by assumption) (by assumption)
 rw [e_]
 refine zsk <| zsp <| zre <| zo2 (vI 0) (vI (-1)) ?_
 refine ⟨?_, hM⟩
 have e_ : unS op a = (0, (-1)) := by
   first | exact uo1 | exact uo2 | exact uo3 | exact un_no (by assumption) (by assumption) (by assumption)
 rw [e_]
theorem rsum_c (X : RX) (z : ZSt) (oA : Option Addr) (oc : Nat) (w : World) (hX : X.WF) (hG : ZGood X z) (hR : (Res.pk (rwnL X z oA oc)).holds w) (op a b : Int) (hz : z.ov = false) :
    Calls Try.prog 100 #[(pT X.r 0), (vI op), (vI a), (vI b)] w (Ret fun v w' => XV X (xS X z oA oc) w z (sumS op a b) v w') := by
 refine zen 24 [(pT X.r 0), (vI op), (vI a), (vI b)] Try.func100 ?_
 have hM := Mem.unpk hR
 refine zsp <| zsr <| zpn 3 <| zcl (r1bin_c op a b w) ?_
 rintro _ w1 ⟨rfl, M2x⟩
 have M2 := hM.cl M2x
 clear M2x hM
 refine zpn 5 <| zfe <| zsq <| zsp <| zcP (((binS op a b).2 : Int) != 0) (((binS op a b).2 : Int) ≠ 0) (by simp only [bne_iff_ne]) (fun c3 => ?_) (fun c3 => ?_)
 refine zrg <| zpn 2 <| zcl (rend_c X z oA oc w1 hX hG (Mem.pk_holds (l := rwnL X z oA oc) M2) 2 ((binS op a b).2)) ?_
 rintro _ w4 ⟨rfl, M5x⟩
 have M5 : Mem (xS X z oA oc) w w4 [.blk X.r 75 [(vS X.dA X.ds.length X.dc), (vS X.pA X.ds.length X.pc), (vS (sM X.mG) X.E.memN X.E.memN), (vI ((z.fin 2 ((binS op a b).2)).s.next)), (vS X.iA X.E.inp.length X.ic), (vI ((z.fin 2 ((binS op a b).2)).s.pos : Int)), (vI ((z.fin 2 ((binS op a b).2)).k)), (vI ((z.fin 2 ((binS op a b).2)).c)), (vS oA ((z.fin 2 ((binS op a b).2)).s.out.length) oc), (vI ((z.fin 2 ((binS op a b).2)).s.steps)), (.bool ((z.fin 2 ((binS op a b).2)).ov)), (vI X.E.fuel), (vI ((z.fin 2 ((binS op a b).2)).s.opened)), (vS X.fA X.E.tfs.length X.fc), (vI ((z.fin 2 ((binS op a b).2)).N)), (vI ((z.fin 2 ((binS op a b).2)).V))], .row 2 1 (sM X.mG) X.E.memN X.E.memN (ints (z.fin 2 ((binS op a b).2)).s.mem), .row 5 1 oA ((z.fin 2 ((binS op a b).2)).s.out.length) oc (u8s (z.fin 2 ((binS op a b).2)).s.out)] := M2.mdk M5x
 refine zfe <| zsp <| zre <| zo1 (vI (binS op a b).1) ?_
 exact ⟨_, (z.fin 2 ((binS op a b).2)), oA, oc, rfl, hG.fin, Eqv.fin (K := sumS op a b) rfl (fun _ => by unfold sumS; rw [if_neg c3]; rfl), M5⟩
 refine zsk <| zsp <| zre <| zo1 (vI (binS op a b).1) ?_
 exact ⟨_, z, oA, oc, rfl, hG, Eqv.to (K := sumS op a b) rfl hz hz (by unfold sumS; rw [if_pos (by omega)]), M2⟩
theorem rnamed_c (X : RX) (z : ZSt) (oA : Option Addr) (oc : Nat) (w : World) (hX : X.WF) (hG : ZGood X z) (hR : (Res.pk (rwnL X z oA oc)).holds w) (hA : RO (xS X z oA oc) w X.ro) (e : MEx) (hz : z.ov = false) (h89 : e.op = 8 ∨ e.op = 9) :
    Calls Try.prog 102 #[(pT X.r 0), (.agg (EC e).toArray)] w (Ret fun v w' => XV X (xS X z oA oc) w z (namS X.E e) v w') := by
 have h8 : (lkp X.E.data e.nm).getD 0 = 0 → lkp X.E.data e.nm = none := fun h_ => lk_nil h_ (fun n hn => by rw [hX.data] at hn; obtain ⟨j, _, rfl⟩ := nextTo_of hn; have := nextTo_pos (ds := X.ds) (j := j); omega)
 have h9 : (lkp X.E.names e.nm).getD 0 = 0 → lkp X.E.names e.nm = none := fun h_ => lk_nil h_ (fun n hn => by rw [hX.names] at hn; have := nms_of hn; omega)
 have h8y : ¬ (lkp X.E.data e.nm).getD 0 = 0 → lkS X.E.data e.nm z.s = .ok ((lkp X.E.data e.nm).getD 0) z.s := fun h_ => lk_got h_
 have h9y : ¬ (lkp X.E.names e.nm).getD 0 = 0 → lkS X.E.names e.nm z.s = .ok ((lkp X.E.names e.nm).getD 0) z.s := fun h_ => lk_got h_
 refine zen 26 [(pT X.r 0), (.agg (EC e).toArray)] Try.func102 ?_
 have hM := Mem.unpk hR
 refine zsr <| zbx hM 53 (.agg (EC e).toArray) (EC e) fun b1 w2 hb1 M3 => ?_
 replace M3 := M3.nf
 clear hM
 refine zpn 1 <| zfe <| zsr <| zpn 2 <| zld ⟨b1, 2, none⟩ (.string e.nm) (blk_cell (M3.get 3 rfl) rfl) <| zcl (rnumber_c X z oA oc w2 hX (M3.own_ro 0 rfl) (hA.at_ M3) e.nm) ?_
 rintro _ w4 ⟨rfl, M5x⟩
 have M5 := M3.cl M5x
 refine zpn 1 <| zfe <| zsq <| zsr <| zpn 1 <| zld ⟨b1, 0, none⟩ (vI e.op) (blk_cell (M5.get 3 rfl) rfl) <| zpn 1 <| zfe <| zcQ e.op 8 (fun c6 => ?_) (fun c6 => ?_)
 refine zkp [(0, (pT X.r 0)), (3, (pT b1 0)), (5, (vI ((lkp X.E.names e.nm).getD 0)))] ?_
 intro aC fr
 refine zdt 5 (N := 26) (env0 := [(0, (pT X.r 0)), (3, (pT b1 0)), (5, (vI ((lkp X.E.names e.nm).getD 0)))]) (specAt [.det (pT X.r 0), .det (pT X.r 0), .det (pT X.r 0), .det (pT b1 2), .det (.string e.nm)]) fr (la (la (la (la (la lz dP) dP) dP) dP) (dL ⟨b1, 2, none⟩ (.string e.nm) fun w_ hK => (blk_cell ((M5.then_ hK).get 3 rfl) rfl))) ?_
 intro aC w11 vs hK hv fr
 revert aC; refine zkp [(0, (pT X.r 0)), (15, (pT X.r 0)), (17, (.string e.nm))] ?_
 have M12 := M5.then_ hK
 clear hK hv fr aC M5; clear vs
 refine zcl (rplace_c X z oA oc w11 hX (M12.own_ro 0 rfl) (hA.at_ M12) e.nm) ?_
 rintro _ w13 ⟨rfl, M14x⟩
 have M14 := M12.cl M14x
 refine zpn 1 <| zfe <| zsq <| zsp <| zcQ ((lkp X.E.data e.nm).getD 0) 0 (fun c15 => ?_) (fun c15 => ?_)
 refine zrg <| zpn 3 <| zcl (rend_c X z oA oc w13 hX hG (Mem.pk_holds (l := rwnL X z oA oc) M14) 5 0) ?_
 rintro _ w16 ⟨rfl, M17x⟩
 have M17 : Mem (xS X z oA oc) w w16 [xb_ X (z.fin 5 0) oA oc, xm_ X (z.fin 5 0), xo_ (z.fin 5 0) oA oc, .blk b1 53 (EC e)] := M14.mdk M17x
 refine zfe <| zsp <| zre <| zo1 (vI ((lkp X.E.data e.nm).getD 0)) ?_
 exact ⟨_, (z.fin 5 0), oA, oc, rfl, hG.fin, Eqv.fin (K := namS X.E e) rfl (fun _ => by unfold namS; rw [if_pos (by omega)]; rw [lk_no (h8 (by assumption))]; rfl), M17.tk 3⟩
 refine zsk <| zsp <| zre <| zo1 (vI ((lkp X.E.data e.nm).getD 0)) ?_
 exact ⟨_, z, oA, oc, rfl, hG, Eqv.to (K := namS X.E e) rfl hz hz (by unfold namS; rw [if_pos (by omega)]; exact h8y (by assumption)), M14.tk 3⟩
 refine zsk <| zsq <| zsp <| zcQ ((lkp X.E.names e.nm).getD 0) 0 (fun c18 => ?_) (fun c18 => ?_)
 refine zrg <| zpn 3 <| zcl (rend_c X z oA oc w4 hX hG (Mem.pk_holds (l := rwnL X z oA oc) M5) 5 0) ?_
 rintro _ w19 ⟨rfl, M20x⟩
 have M20 : Mem (xS X z oA oc) w w19 [xb_ X (z.fin 5 0) oA oc, xm_ X (z.fin 5 0), xo_ (z.fin 5 0) oA oc, .blk b1 53 (EC e)] := M5.mdk M20x
 refine zkp [(5, (vI ((lkp X.E.names e.nm).getD 0)))] <| zfe <| zsp <| zre <| zo1 (vI ((lkp X.E.names e.nm).getD 0)) ?_
 exact ⟨_, (z.fin 5 0), oA, oc, rfl, hG.fin, Eqv.fin (K := namS X.E e) rfl (fun _ => by unfold namS; rw [if_neg (by omega)]; rw [lk_no (h9 (by assumption))]; rfl), M20.tk 3⟩
 refine zsk <| zsp <| zre <| zo1 (vI ((lkp X.E.names e.nm).getD 0)) ?_
 exact ⟨_, z, oA, oc, rfl, hG, Eqv.to (K := namS X.E e) rfl hz hz (by unfold namS; rw [if_neg (by omega)]; exact h9y (by assumption)), M5.tk 3⟩
end Go.Proofs.Ytdcgcjibgihbbaa

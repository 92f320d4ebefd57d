/-
  Texts of the proof, part 12.
-/
import Derived.Test.YtdcgcjibgihbbaaZc11
import Derived.Test.YtdcgcjibgihbbaaChecked
set_option maxRecDepth 10000
namespace Go.Proofs.Ytdcgcjibgihbbaa
open Go.Mor Go.ChangeShapes Go.WideShapes Go.ChangeAt Go.RowKit Go.Deep
theorem Try.own : ownKnob Try.prog.godebug = none := by kernel_rfl
theorem Try.laidOut : laidOutB Try.prog = true := by kernel_rfl
theorem list2 {α : Type} {cs : List α} (h : cs.length = 2) : ∃ c0 c1, cs = [c0, c1] := by
  match cs, h with
  | [c0, c1], _ => exact ⟨c0, c1, rfl⟩
theorem list3 {α : Type} {cs : List α} (h : cs.length = 3) : ∃ c0 c1 c2, cs = [c0, c1, c2] := by
  match cs, h with
  | [c0, c1, c2], _ => exact ⟨c0, c1, c2, rfl⟩
theorem list4 {α : Type} {cs : List α} (h : cs.length = 4) : ∃ c0 c1 c2 c3, cs = [c0, c1, c2, c3] := by
  match cs, h with
  | [c0, c1, c2, c3], _ => exact ⟨c0, c1, c2, c3, rfl⟩
theorem list5 {α : Type} {cs : List α} (h : cs.length = 5) : ∃ c0 c1 c2 c3 c4, cs = [c0, c1, c2, c3, c4] := by
  match cs, h with
  | [c0, c1, c2, c3, c4], _ => exact ⟨c0, c1, c2, c3, c4, rfl⟩
def Reach_ {H : Type} (t : TypeId) (d : DataW H) : Prop := ∀ n, n ∈ d.weights Try.prog t → n ≤ reachBytes
theorem len_ok {a k : Nat} (hk : 0 < k) (h : a * k ≤ reachBytes) : LenOk a := by
  have h1 : a * 1 ≤ a * k := Nat.mul_le_mul_left a hk
  have h2 := reachBytes_lt
  unfold LenOk
  omega
theorem weights_all {H : Type} {e : TypeId} {l : List (DataW H)} {d : DataW H} (h : d ∈ l) : ∀ n, n ∈ d.weights Try.prog e → n ∈ DataW.weightsAll Try.prog e l := by
  induction l with
  | nil => cases h
  | cons x l ih =>
    intro n hn
    unfold DataW.weightsAll
    rcases List.mem_cons.1 h with rfl | h
    · exact List.mem_append_left _ hn
    · exact List.mem_append_right _ (ih h n hn)
section
variable {H : Type} {enc : TypeId × Value → H} {w : World} {base : Nat} {spare : Nat → Bool} {held : Bool}
theorem i64_of {t : TypeId} (ht : Try.prog.underlying t = some (.int .i64)) {fuel : Nat} {v : Value} {x : DataW H × List MemPlace} (h : DataW.trod enc Try.prog w base spare held fuel t [v] = some x) : ∃ n, v = .int .i64 n ∧ In64 n := by
  obtain ⟨n, rfl, h1, h2⟩ := int_of ht h
  exact ⟨n, rfl, h1, h2⟩
theorem u8_of {t : TypeId} (ht : Try.prog.underlying t = some (.int .u8)) {fuel : Nat} {v : Value} {x : DataW H × List MemPlace} (h : DataW.trod enc Try.prog w base spare held fuel t [v] = some x) : ∃ n, v = .int .u8 n ∧ 0 ≤ n ∧ n ≤ 255 := by
  obtain ⟨n, rfl, h1, h2⟩ := int_of ht h
  exact ⟨n, rfl, h1, h2⟩
theorem str_of {t : TypeId} (ht : Try.prog.underlying t = some .string) {fuel : Nat} {v : Value} {x : DataW H × List MemPlace} (h : DataW.trod enc Try.prog w base spare held fuel t [v] = some x) (hz : Reach_ t x.1) : ∃ s, v = .string s ∧ LenOk s.size := by
  obtain ⟨s, h1, h3, _⟩ := DataW.trod_string ht h
  simp at h1
  subst h3
  refine ⟨s, h1, len_ok (k := 1) Nat.one_pos ?_⟩
  have := hz s.data.toList.length (by simp [DataW.weights])
  rw [Nat.mul_one]
  simpa using this
theorem bool_of {t : TypeId} (ht : Try.prog.underlying t = some .bool) {fuel : Nat} {v : Value} {x : DataW H × List MemPlace} (h : DataW.trod enc Try.prog w base spare held fuel t [v] = some x) : ∃ b, v = .bool b := by
  obtain ⟨b, hb, _⟩ := DataW.trod_bool ht h
  simp at hb
  exact ⟨b, hb⟩
theorem fields_of3 {t : TypeId} {fs : Array Field} (hs : Try.prog.underlying t = some (.struct fs)) (hone : oneCellFields Try.prog fs = true) (hC : Try.prog.cellsOf t = fs.size) {fuel : Nat} {cs : List Value} {x : DataW H × List MemPlace}
    (h : DataW.trod enc Try.prog w base spare held fuel t cs = some x) (hz : Reach_ t x.1) :
    cs.length = fs.size ∧ ∃ n : Nat, n < fuel ∧ ∀ (i : Nat) (f : Field), fs[i]? = some f → ∃ (v : Value) (y : DataW H × List MemPlace), cs[i]? = some v ∧ DataW.trod enc Try.prog w base spare held n f.type [v] = some y ∧ Reach_ f.type y.1 := by
  obtain ⟨xs, n, hn, hxe, hlen, hxs, hf⟩ := DataW.trod_struct hs h
  rw [hC] at hlen
  refine ⟨hlen, n, by omega, fun i f hi => ?_⟩
  have hlt : i < fs.size := (Array.getElem?_eq_some_iff.1 hi).1
  obtain ⟨ho, hc1⟩ := hone_of hone i f hi
  have h1 := hf i f hi
  rw [ho, hc1, take1_drop cs i undef (by omega)] at h1
  rw [List.getElem?_eq_getElem (by omega : i < xs.length)] at h1
  refine ⟨cs[i]'(by omega), xs[i]'(by omega), List.getElem?_eq_getElem (by omega), ?_, fun m hm => hz m ?_⟩
  · rw [← h1]
    simp [List.getD, List.getElem?_eq_getElem (by omega : i < cs.length)]
  · subst hxe
    simp only [DataW.weights, hs]
    exact DataW.weights_mem_each (j := i) (by rw [List.getElem?_map]; simp [hi]) (by rw [List.getElem?_map, List.getElem?_eq_getElem (by omega)]; rfl) m hm
theorem open_elems3 {t e : TypeId} {k : Nat} (ht : Try.prog.underlying t = some (.slice e)) (hb : Try.prog.bytesOf e = k) (hk : 0 < k)
    {fuel : Nat} {v : Value} {x : DataW H × List MemPlace} (h : DataW.trod enc Try.prog w base spare held fuel t [v] = some x) (hz : Reach_ t x.1) :
    ∃ A len cap, v = .slice A len cap ∧ LenOk len ∧ len ≤ cap ∧ ∀ i, i < len → ∃ (ad : Addr) (cs : List Value) (n : Nat) (y : DataW H × List MemPlace), n < fuel ∧ A = some ad ∧ cs.length = Try.prog.cellsOf e ∧
      (∀ (j : Nat) (v : Value), cs[j]? = some v → w.cell? ((ad.add (i * Try.prog.cellsOf e)).add j) = some v) ∧ DataW.trod enc Try.prog w base spare held n e cs = some y ∧ Reach_ e y.1 := by
  rcases DataW.trod_slice ht h with ⟨hcs, _⟩ | ⟨a, len, cap, elems, rest, n, hn, hcs, hxe, _, hlc, _, hel, hx, _⟩
  · simp at hcs
    subst hcs
    exact ⟨none, 0, 0, rfl, by simp [LenOk], Nat.le_refl _, fun i hi => absurd hi (Nat.not_lt_zero _)⟩
  · simp at hcs
    subst hcs
    subst hxe
    have hw : ∀ m, m ∈ (elems.map (·.1)).length * 0 :: DataW.weightsAll Try.prog e (elems.map (·.1)) → m ≤ reachBytes := by
      intro m hm
      rcases List.mem_cons.1 hm with rfl | hm
      · omega
      · refine hz m ?_
        simp only [DataW.weights, ht]
        exact List.mem_cons_of_mem _ (List.mem_append_left _ hm)
    refine ⟨some a, len, cap, rfl, ?_, hlc, fun i hi => ?_⟩
    · have h1 := hz (((elems.map (·.1)).length + (rest.map (·.1)).length) * Try.prog.bytesOf e) (by simp only [DataW.weights, ht]; exact List.mem_cons_self)
      rw [hb, List.length_map, List.length_map, hel] at h1
      exact len_ok hk (Nat.le_trans (Nat.mul_le_mul_right k (Nat.le_add_right _ _)) h1)
    · have h1 := hx i hi
      rw [List.getElem?_eq_getElem (by omega : i < elems.length)] at h1
      cases hc : w.cells? base (a.add (i * Try.prog.cellsOf e)) (Try.prog.cellsOf e) with
      | none => rw [hc] at h1; cases h1
      | some cs =>
        rw [hc] at h1
        obtain ⟨_, hlen, hcell⟩ := World.cells?_some hc
        refine ⟨a, cs, n, elems[i]'(by omega), by omega, rfl, hlen, fun j v hj => ?_, h1, fun m hm => hw m (List.mem_cons_of_mem _ (weights_all (d := (elems[i]'(by omega)).1) ?_ m hm))⟩
        · rw [hcell j (by have := (List.getElem?_eq_some_iff.1 hj).1; omega)]
          exact hj
        · exact List.mem_map.2 ⟨elems[i]'(by omega), List.getElem_mem _, rfl⟩
theorem open_list {α : Type} {f : α → List Value} {p : α → Prop} {t e : TypeId} {k : Nat} {fs : Array Field} (ht : Try.prog.underlying t = some (.slice e)) (hs : Try.prog.underlying e = some (.struct fs)) (hone : oneCellFields Try.prog fs = true) (hC : Try.prog.cellsOf e = fs.size) (hb : Try.prog.bytesOf e = k) (hk : 0 < k)
    {fuel : Nat} {v : Value} {x : DataW H × List MemPlace} (h : DataW.trod enc Try.prog w base spare held fuel t [v] = some x) (hz : Reach_ t x.1)
    (hx : ∀ (n : Nat) (cs : List Value), n < fuel → cs.length = fs.size → (∀ (j : Nat) (g : Field), fs[j]? = some g → ∃ (v : Value) (y : DataW H × List MemPlace), cs[j]? = some v ∧ DataW.trod enc Try.prog w base spare held n g.type [v] = some y ∧ Reach_ g.type y.1) → ∃ a, f a = cs ∧ p a) :
    ∃ A l c, v = .slice A (List.length l) c ∧ LenOk l.length ∧ l.length ≤ c ∧ (Res.rds A fs.size (l.map f)).holds w ∧ ∀ a, a ∈ l → p a := by
  obtain ⟨A, len, cap, rfl, hl, hlc, hel⟩ := open_elems3 ht hb hk h hz
  have : ∀ i, i < len → ∃ a : α, p a ∧ ∃ ad : Addr, A = some ad ∧ ∀ (j : Nat) (v : Value), (f a)[j]? = some v → w.cell? ((ad.add (i * fs.size)).add j) = some v := by
    intro i hi
    obtain ⟨ad, cs, n, y, hn, hA, hlen, hc, htr, hy⟩ := hel i hi
    rw [hC] at hlen hc
    obtain ⟨_, n', hn', hf⟩ := fields_of3 hs hone hC htr hy
    obtain ⟨a, rfl, ha⟩ := hx n' cs (by omega) hlen hf
    exact ⟨a, ha, ad, hA, hc⟩
  obtain ⟨l, rfl, hp⟩ := list_of this
  refine ⟨A, l, cap, rfl, hl, hlc, fun i cs hi => ?_, fun a ha => ?_⟩
  · rw [List.getElem?_map] at hi
    obtain ⟨b, hb, rfl⟩ := Option.map_eq_some_iff.1 hi
    exact (hp i b hb).2
  · obtain ⟨i, hi⟩ := List.mem_iff_getElem?.1 ha
    exact (hp i a hi).1
theorem open_vals {α : Type} {f : α → Value} {p : α → Prop} {t e : TypeId} {k : Nat} (ht : Try.prog.underlying t = some (.slice e)) (hC : Try.prog.cellsOf e = 1) (hb : Try.prog.bytesOf e = k) (hk : 0 < k)
    {fuel : Nat} {v : Value} {x : DataW H × List MemPlace} (h : DataW.trod enc Try.prog w base spare held fuel t [v] = some x) (hz : Reach_ t x.1)
    (hx : ∀ (n : Nat) (c : Value) (y : DataW H × List MemPlace), DataW.trod enc Try.prog w base spare held n e [c] = some y → Reach_ e y.1 → ∃ a, f a = c ∧ p a) :
    ∃ A l c, v = .slice A (List.length l) c ∧ LenOk l.length ∧ l.length ≤ c ∧ (Res.rd A (l.map f)).holds w ∧ ∀ a, a ∈ l → p a := by
  obtain ⟨A, len, cap, rfl, hl, hlc, hel⟩ := open_elems3 ht hb hk h hz
  have : ∀ i, i < len → ∃ a : α, p a ∧ ∃ ad : Addr, A = some ad ∧ w.cell? (ad.add i) = some (f a) := by
    intro i hi
    obtain ⟨ad, cs, n, y, hn, hA, hlen, hc, htr, hy⟩ := hel i hi
    rw [hC] at hlen hc
    match cs, hlen with
    | [c0], _ =>
      obtain ⟨a, rfl, ha⟩ := hx n c0 y htr hy
      refine ⟨a, ha, ad, hA, ?_⟩
      have h0 := hc 0 _ rfl
      rw [Nat.mul_one] at h0
      simpa [Addr.add] using h0
  obtain ⟨l, rfl, hp⟩ := list_of this
  refine ⟨A, l, cap, rfl, hl, hlc, fun i v hi => ?_, fun a ha => ?_⟩
  · rw [List.getElem?_map, Option.map_eq_some_iff] at hi
    obtain ⟨b, hb, rfl⟩ := hi
    exact (hp i b hb).2
  · obtain ⟨i, hi⟩ := List.mem_iff_getElem?.1 ha
    exact (hp i a hi).1
theorem exsI_all {l : List MEx} (h : ∀ e, e ∈ l → exI e) : exsI l := by
  induction l with
  | nil => trivial
  | cons e r ih => exact ⟨h e (List.mem_cons_self ..), ih fun x hx => h x (List.mem_cons_of_mem _ hx)⟩
theorem stsI_all {l : List MSt} (h : ∀ e, e ∈ l → stI e) : stsI l := by
  induction l with
  | nil => trivial
  | cons e r ih => exact ⟨h e (List.mem_cons_self ..), ih fun x hx => h x (List.mem_cons_of_mem _ hx)⟩
theorem open_mexs : ∀ (fuel : Nat) {v : Value} {x : DataW H × List MemPlace}, DataW.trod enc Try.prog w base spare held fuel 46 [v] = some x → Reach_ 46 x.1 →
    ∃ A l c, v = .slice A (List.length l) c ∧ LenOk l.length ∧ (Res.rds A 4 (l.map MEx.cells)).holds w ∧ exsI l ∧ ∀ r, r ∈ exsRes l → r.holds w := by
  intro fuel
  induction fuel using Nat.strongRecOn with
  | ind fuel ih =>
    intro v x h hz
    obtain ⟨A, l, c, rfl, hl, _, hr, hp⟩ := open_list (f := MEx.cells) (p := fun e => exI e ∧ ∀ r, r ∈ exRes e → r.holds w) (k := 56) Try.underlying46 Try.underlying53 (by kernel_rfl) (by kernel_rfl) (by kernel_rfl) (by omega) h hz (fun n cs hn hln hf => by
      obtain ⟨c0, c1, c2, c3, rfl⟩ := list4 hln
      obtain ⟨_, _, e, g0, zg0⟩ := hf 0 _ rfl
      cases e
      obtain ⟨o, rfl, ho⟩ := i64_of Try.underlying3 g0
      obtain ⟨_, _, e, g1, zg1⟩ := hf 1 _ rfl
      cases e
      obtain ⟨m, rfl, hm⟩ := i64_of Try.underlying2 g1
      obtain ⟨_, _, e, g2, zg2⟩ := hf 2 _ rfl
      cases e
      obtain ⟨nm, rfl, hnm⟩ := str_of Try.underlying9 g2 zg2
      obtain ⟨_, _, e, g3, zg3⟩ := hf 3 _ rfl
      cases e
      obtain ⟨B, ks, d, rfl, h1, h2, h3, h4⟩ := ih n hn g3 zg3
      refine ⟨⟨o, m, nm, B, d, ks⟩, rfl, ⟨⟨ho, hm, hnm, h1⟩, h3⟩, fun r hr => ?_⟩
      rw [exRes_eq] at hr
      rcases List.mem_cons.1 hr with rfl | hr
      · exact h2
      · exact h4 r hr)
    exact ⟨A, l, c, rfl, hl, hr, exsI_all fun e he => (hp e he).1, exs_res_of (p := fun r => r.holds w) fun e he => (hp e he).2⟩
theorem open_msts : ∀ (fuel : Nat) {v : Value} {x : DataW H × List MemPlace}, DataW.trod enc Try.prog w base spare held fuel 43 [v] = some x → Reach_ 43 x.1 →
    ∃ A l c, v = .slice A (List.length l) c ∧ LenOk l.length ∧ (Res.rds A 5 (l.map MSt.cells)).holds w ∧ stsI l ∧ ∀ r, r ∈ stsRes l → r.holds w := by
  intro fuel
  induction fuel using Nat.strongRecOn with
  | ind fuel ih =>
    intro v x h hz
    obtain ⟨A, l, c, rfl, hl, _, hr, hp⟩ := open_list (f := MSt.cells) (p := fun e => stI e ∧ ∀ r, r ∈ stRes e → r.holds w) (k := 88) Try.underlying43 Try.underlying48 (by kernel_rfl) (by kernel_rfl) (by kernel_rfl) (by omega) h hz (fun n cs hn hln hf => by
      obtain ⟨c0, c1, c2, c3, c4, rfl⟩ := list5 hln
      obtain ⟨_, _, e, g0, zg0⟩ := hf 0 _ rfl
      cases e
      obtain ⟨o, rfl, ho⟩ := i64_of Try.underlying3 g0
      obtain ⟨_, _, e, g1, zg1⟩ := hf 1 _ rfl
      cases e
      obtain ⟨m, rfl, hm⟩ := i64_of Try.underlying2 g1
      obtain ⟨_, _, e, g2, zg2⟩ := hf 2 _ rfl
      cases e
      obtain ⟨eA, es, ec, rfl, e1, e2, e3, e4⟩ := open_mexs n g2 zg2
      obtain ⟨_, _, e, g3, zg3⟩ := hf 3 _ rfl
      cases e
      obtain ⟨bA, bs, bc, rfl, b1, b2, b3, b4⟩ := ih n hn g3 zg3
      obtain ⟨_, _, e, g4, zg4⟩ := hf 4 _ rfl
      cases e
      obtain ⟨lA, ls, lc, rfl, l1, l2, l3, l4⟩ := ih n hn g4 zg4
      refine ⟨⟨o, m, eA, ec, es, bA, bc, bs, lA, lc, ls⟩, rfl, ⟨⟨ho, hm, e1, b1, l1⟩, e3, b3, l3⟩, fun r hr => ?_⟩
      rw [stRes_eq] at hr
      rcases List.mem_cons.1 hr with rfl | hr
      · exact e2
      rcases List.mem_cons.1 hr with rfl | hr
      · exact b2
      rcases List.mem_cons.1 hr with rfl | hr
      · exact l2
      rcases List.mem_append.1 hr with hr | hr
      · exact e4 r hr
      rcases List.mem_append.1 hr with hr | hr
      · exact b4 r hr
      · exact l4 r hr)
    exact ⟨A, l, c, rfl, hl, hr, stsI_all fun e he => (hp e he).1, sts_res_of (p := fun r => r.holds w) fun e he => (hp e he).2⟩
end
end Go.Proofs.Ytdcgcjibgihbbaa
namespace Go.Proofs.Ytdcgcjibgihbbaa
open Go.Mor Go.ChangeShapes Go.WideShapes Go.ChangeAt Go.RowKit Go.Deep
section
variable {H : Type} {enc : TypeId × Value → H} {w : World} {base : Nat} {spare : Nat → Bool} {held : Bool}
abbrev Fld (enc : TypeId × Value → H) (w : World) (base : Nat) (spare : Nat → Bool) (held : Bool) (n : Nat) (cs : List Value) (j : Nat) (t : TypeId) : Prop := ∃ (v : Value) (y : DataW H × List MemPlace), cs[j]? = some v ∧ DataW.trod enc Try.prog w base spare held n t [v] = some y ∧ Reach_ t y.1
abbrev FnOk (w : World) (f : TFn) : Prop := f.In ∧ ∀ r, r ∈ f.parts → r.holds w
abbrev DatOk (w : World) (d : FDat) : Prop := (LenOk d.nm.size ∧ LenOk d.words.length ∧ LenOk d.refs.length ∧ ∀ r, r ∈ d.refs → In64 r.1 ∧ LenOk r.2.size) ∧ ∀ r, r ∈ d.parts → r.holds w
abbrev ModOk (w : World) (m : TMod) : Prop := m.In0 ∧ ∀ r, r ∈ m.parts → r.holds w
theorem fn_of {n : Nat} {cs : List Value} (hln : cs.length = 5) (f0 : Fld enc w base spare held n cs 0 9) (f1 : Fld enc w base spare held n cs 1 4) (f2 : Fld enc w base spare held n cs 2 3) (f3 : Fld enc w base spare held n cs 3 3) (f4 : Fld enc w base spare held n cs 4 43) : ∃ f : TFn, f.cells = cs ∧ FnOk w f := by
  obtain ⟨c0, c1, c2, c3, c4, rfl⟩ := list5 hln
  obtain ⟨_, _, e, g0, zg0⟩ := f0
  cases e
  obtain ⟨nm, rfl, hnm⟩ := str_of Try.underlying9 g0 zg0
  obtain ⟨_, _, e, g1, _⟩ := f1
  cases e
  obtain ⟨wk, rfl⟩ := bool_of Try.underlying4 g1
  obtain ⟨_, _, e, g2, _⟩ := f2
  cases e
  obtain ⟨pa, rfl, hpa⟩ := i64_of Try.underlying3 g2
  obtain ⟨_, _, e, g3, _⟩ := f3
  cases e
  obtain ⟨lo, rfl, hlo⟩ := i64_of Try.underlying3 g3
  obtain ⟨_, _, e, g4, zg4⟩ := f4
  cases e
  obtain ⟨A, l, c, rfl, h1, h2, h3, h4⟩ := open_msts n g4 zg4
  refine ⟨⟨nm, wk, pa, lo, A, c, l⟩, rfl, ⟨hnm, hpa, hlo, h1, h3⟩, fun r hr => ?_⟩
  have hr2 : r ∈ Res.rds A 5 (l.map MSt.cells) :: stsRes l := hr
  rcases List.mem_cons.1 hr2 with rfl | hr
  · exact h2
  · exact h4 r hr
theorem open_tfns {n : Nat} {v : Value} {x : DataW H × List MemPlace} (h : DataW.trod enc Try.prog w base spare held n 22 [v] = some x) (hz : Reach_ 22 x.1) :
    ∃ A l c, v = .slice A (List.length l) c ∧ LenOk l.length ∧ (Res.rds A 5 (l.map TFn.cells)).holds w ∧ ∀ f, f ∈ l → FnOk w f := by
  obtain ⟨A, l, c, rfl, hl, _, hr, hp⟩ := open_list (f := TFn.cells) (p := FnOk w) (k := 64) Try.underlying22 Try.underlying45 (by kernel_rfl) (by kernel_rfl) (by kernel_rfl) (by omega) h hz (fun n cs _ hln hf => fn_of hln (hf 0 _ rfl) (hf 1 _ rfl) (hf 2 _ rfl) (hf 3 _ rfl) (hf 4 _ rfl))
  exact ⟨A, l, c, rfl, hl, hr, hp⟩
theorem open_refs {n : Nat} {v : Value} {x : DataW H × List MemPlace} (h : DataW.trod enc Try.prog w base spare held n 57 [v] = some x) (hz : Reach_ 57 x.1) :
    ∃ A l c, v = .slice A (List.length l) c ∧ LenOk l.length ∧ (Res.rds A 2 (l.map refCells)).holds w ∧ ∀ r : Int × ByteArray, r ∈ l → In64 r.1 ∧ LenOk r.2.size := by
  obtain ⟨A, l, c, rfl, hl, _, hr, hp⟩ := open_list (f := refCells) (p := fun r => In64 r.1 ∧ LenOk r.2.size) (k := 24) Try.underlying57 Try.underlying96 (by kernel_rfl) (by kernel_rfl) (by kernel_rfl) (by omega) h hz (fun n cs _ hln hf => by
    obtain ⟨c0, c1, rfl⟩ := list2 hln
    obtain ⟨_, _, e, g0, _⟩ := hf 0 _ rfl
    cases e
    obtain ⟨o, rfl, ho⟩ := i64_of Try.underlying3 g0
    obtain ⟨_, _, e, g1, zg1⟩ := hf 1 _ rfl
    cases e
    obtain ⟨nm, rfl, hnm⟩ := str_of Try.underlying9 g1 zg1
    exact ⟨(o, nm), rfl, ho, hnm⟩)
  exact ⟨A, l, c, rfl, hl, hr, hp⟩
theorem open_dats {n : Nat} {v : Value} {x : DataW H × List MemPlace} (h : DataW.trod enc Try.prog w base spare held n 23 [v] = some x) (hz : Reach_ 23 x.1) :
    ∃ A l c, v = .slice A (List.length l) c ∧ LenOk l.length ∧ (Res.rds A 4 (l.map FDat.cells)).holds w ∧ ∀ d, d ∈ l → DatOk w d := by
  obtain ⟨A, l, c, rfl, hl, _, hr, hp⟩ := open_list (f := FDat.cells) (p := DatOk w) (k := 72) Try.underlying23 Try.underlying59 (by kernel_rfl) (by kernel_rfl) (by kernel_rfl) (by omega) h hz (fun n cs _ hln hf => by
    obtain ⟨c0, c1, c2, c3, rfl⟩ := list4 hln
    obtain ⟨_, _, e, g0, zg0⟩ := hf 0 _ rfl
    cases e
    obtain ⟨nm, rfl, hnm⟩ := str_of Try.underlying9 g0 zg0
    obtain ⟨_, _, e, g1, _⟩ := hf 1 _ rfl
    cases e
    obtain ⟨wk, rfl⟩ := bool_of Try.underlying4 g1
    obtain ⟨_, _, e, g2, zg2⟩ := hf 2 _ rfl
    cases e
    obtain ⟨wA, ws, wc, rfl, w1, _, w2, _⟩ := open_vals (f := Value.int .i64) (p := In64) (k := 8) Try.underlying56 (by kernel_rfl) (by kernel_rfl) (by omega) g2 zg2 (fun n c y hy _ => by
      obtain ⟨k, rfl, hk⟩ := i64_of Try.underlying2 hy
      exact ⟨k, rfl, hk⟩)
    obtain ⟨_, _, e, g3, zg3⟩ := hf 3 _ rfl
    cases e
    obtain ⟨rA, rs, rc, rfl, r1, r2, r3⟩ := open_refs g3 zg3
    refine ⟨⟨nm, wk, wA, wc, ws, rA, rc, rs⟩, rfl, ⟨hnm, w1, r1, r3⟩, fun r hr => ?_⟩
    simp only [FDat.parts, List.mem_cons, List.not_mem_nil, or_false] at hr
    rcases hr with rfl | rfl
    · exact w2
    · exact r2)
  exact ⟨A, l, c, rfl, hl, hr, hp⟩
theorem mod_of {n : Nat} {cs : List Value} (hln : cs.length = 3) (f0 : Fld enc w base spare held n cs 0 9) (f1 : Fld enc w base spare held n cs 1 22) (f2 : Fld enc w base spare held n cs 2 23) : ∃ m : TMod, m.cells = cs ∧ ModOk w m := by
  obtain ⟨c0, c1, c2, rfl⟩ := list3 hln
  obtain ⟨_, _, e, g0, zg0⟩ := f0
  cases e
  obtain ⟨nm, rfl, _⟩ := str_of Try.underlying9 g0 zg0
  obtain ⟨_, _, e, g1, zg1⟩ := f1
  cases e
  obtain ⟨fA, fs, fc, rfl, h1, h2, h3⟩ := open_tfns g1 zg1
  obtain ⟨_, _, e, g2, zg2⟩ := f2
  cases e
  obtain ⟨dA, ds, dc, rfl, d1, d2, d3⟩ := open_dats g2 zg2
  refine ⟨⟨nm, fA, fc, fs, dA, dc, ds⟩, rfl, ⟨h1, d1, fun f hf => (h3 f hf).1, fun d hd => (d3 d hd).1⟩, fun r hr => ?_⟩
  have hr2 : r ∈ Res.rds fA 5 (fs.map TFn.cells) :: .rds dA 4 (ds.map FDat.cells) :: (fs.flatMap TFn.parts ++ ds.flatMap FDat.parts) := hr
  rcases List.mem_cons.1 hr2 with rfl | hr
  · exact h2
  rcases List.mem_cons.1 hr with rfl | hr
  · exact d2
  rcases List.mem_append.1 hr with hr | hr
  · obtain ⟨f, hf, hr⟩ := List.mem_flatMap.1 hr
    exact (h3 f hf).2 r hr
  · obtain ⟨d, hd, hr⟩ := List.mem_flatMap.1 hr
    exact (d3 d hd).2 r hr
variable {r : Reach} {b0 : Nat} {v : Value} {d : DataW H} {p : List MemPlace}
theorem open_mod (hok : Value.okWide Try.prog w r b0 25 v) (h : DataW.Trod enc Try.prog w base spare held 25 v d p) (hz : Reach_ 25 d) :
    ∃ m : TMod, v = .agg m.cells.toArray ∧ m.In0 ∧ RO noS w (.all m.parts) := by
  obtain ⟨cs, rfl, _⟩ := okWide_struct Try.underlying25 hok
  obtain ⟨fuel, h⟩ := h
  obtain ⟨hl, n, _, hf⟩ := fields_of3 Try.underlying25 (by kernel_rfl) (by kernel_rfl) (cs := cs.toList) (by simpa [Value.cells] using h) hz
  obtain ⟨m, hm, h1, h2⟩ := mod_of (by simpa using hl) (hf 0 _ rfl) (hf 1 _ rfl) (hf 2 _ rfl)
  refine ⟨m, ?_, h1, RO.of h2⟩
  rw [hm]
theorem open_mfunc (hok : Value.okWide Try.prog w r b0 45 v) (h : DataW.Trod enc Try.prog w base spare held 45 v d p) (hz : Reach_ 45 d) :
    ∃ f : TFn, v = .agg f.cells.toArray ∧ f.In ∧ RO noS w (.all f.parts) := by
  obtain ⟨cs, rfl, _⟩ := okWide_struct Try.underlying45 hok
  obtain ⟨fuel, h⟩ := h
  obtain ⟨hl, n, _, hf⟩ := fields_of3 Try.underlying45 (by kernel_rfl) (by kernel_rfl) (cs := cs.toList) (by simpa [Value.cells] using h) hz
  obtain ⟨f, hm, h1, h2⟩ := fn_of (by simpa using hl) (hf 0 _ rfl) (hf 1 _ rfl) (hf 2 _ rfl) (hf 3 _ rfl) (hf 4 _ rfl)
  refine ⟨f, ?_, h1, RO.of h2⟩
  rw [hm]
theorem open_bytes (hok : Value.okWide Try.prog w r b0 34 v) (h : DataW.Trod enc Try.prog w base spare held 34 v d p) (hz : Reach_ 34 d) :
    ∃ A l c, v = .slice A (List.length l) c ∧ LenOk l.length ∧ l.length ≤ c ∧ (∀ b, b ∈ l → 0 ≤ b ∧ b ≤ 255) ∧ (Res.rd A (u8s l)).holds w := by
  obtain ⟨A, len, cap, rfl⟩ := okWide_slice Try.underlying34 hok
  obtain ⟨fuel, h⟩ := h
  obtain ⟨A', l, c, e, hl, hlc, hr, hp⟩ := open_vals (f := Value.int .u8) (p := fun b => 0 ≤ b ∧ b ≤ 255) (k := 1) Try.underlying34 (by kernel_rfl) (by kernel_rfl) (by omega) (v := .slice A len cap) h hz (fun n c y hy _ => by
    obtain ⟨k, rfl, hk⟩ := u8_of Try.underlying5 hy
    exact ⟨k, rfl, hk⟩)
  injection e with e1 e2 e3
  subst e1 e2 e3
  exact ⟨A, l, cap, rfl, hl, hlc, hp, hr⟩
theorem open_strs (hok : Value.okWide Try.prog w r b0 33 v) (h : DataW.Trod enc Try.prog w base spare held 33 v d p) (hz : Reach_ 33 d) :
    ∃ A l c, v = .slice A (List.length l) c ∧ LenOk l.length ∧ (Res.rd A (l.map Value.string)).holds w := by
  obtain ⟨A, len, cap, rfl⟩ := okWide_slice Try.underlying33 hok
  obtain ⟨fuel, h⟩ := h
  obtain ⟨A', l, c, e, hl, _, hr, _⟩ := open_vals (f := Value.string) (p := fun _ => True) (k := 16) Try.underlying33 (by kernel_rfl) (by kernel_rfl) (by omega) (v := .slice A len cap) h hz (fun n c y hy hz => by
    obtain ⟨k, rfl, _⟩ := str_of Try.underlying9 hy hz
    exact ⟨k, rfl, trivial⟩)
  injection e with e1 e2 e3
  subst e1 e2 e3
  exact ⟨A, l, cap, rfl, hl, hr⟩
theorem trodAll_five {P : Program} {t0 t1 t2 t3 t4 : TypeId} {args : Array Value} {ds : List (DataW H)} {ps : List MemPlace} (h : DataW.TrodAll enc P w base spare held [t0, t1, t2, t3, t4] args.toList ds ps) :
    ∃ v0 v1 v2 v3 v4 d0 d1 d2 d3 d4 p0 p1 p2 p3 p4, args = #[v0, v1, v2, v3, v4] ∧ ds = [d0, d1, d2, d3, d4] ∧ DataW.Trod enc P w base spare held t0 v0 d0 p0 ∧ DataW.Trod enc P w base spare held t1 v1 d1 p1 ∧ DataW.Trod enc P w base spare held t2 v2 d2 p2 ∧ DataW.Trod enc P w base spare held t3 v3 d3 p3 ∧ DataW.Trod enc P w base spare held t4 v4 d4 p4 := by
  obtain ⟨v0, r0, d0, e0, p0, q0, hargs, rfl, _, h0, g0⟩ := trodAll_cons h
  obtain ⟨v1, r1, d1, e1, p1, q1, rfl, rfl, _, h1, g1⟩ := trodAll_cons g0
  obtain ⟨v2, r2, d2, e2, p2, q2, rfl, rfl, _, h2, g2⟩ := trodAll_cons g1
  obtain ⟨v3, r3, d3, e3, p3, q3, rfl, rfl, _, h3, g3⟩ := trodAll_cons g2
  obtain ⟨v4, r4, d4, e4, p4, q4, rfl, rfl, _, h4, g4⟩ := trodAll_cons g3
  obtain ⟨rfl, rfl, _⟩ := trodAll_nil g4
  exact ⟨v0, v1, v2, v3, v4, d0, d1, d2, d3, d4, p0, p1, p2, p3, p4, by cases args; simp_all, rfl, h0, h1, h2, h3, h4⟩
end
end Go.Proofs.Ytdcgcjibgihbbaa
namespace Go.Mor
open Go.RowKit
section
variable {α β : Type} {F : Int}
end
section
variable {E : Env0}
end
end Go.Mor
namespace Go.Mor
open Go.RowKit
section
variable {α β : Type} {Q : Prop} {F φ lo : Int}
section
variable {E : EnvT} {call call' : Int → List Int → PSt → Got Int} {ev ev' : MEx → PSt → Got Int}
variable {st st' : MSt → Frm → PSt → Got (Int × Frm)}
variable {ex ex' : List Int → MEx → PSt → Got Int}
end
end
end Go.Mor
namespace Go.Proofs.Ytdcgcjibgihbbaa
open Go.Mor
theorem teck_c (l : List MEx) (ih : ∀ k, k ∈ l → ECk Try.prog k.kids) (A : Option Addr) (c : Nat) (most : Int) (T : List Res) (w : World) (hm0 : 0 ≤ most) (hm1 : most ≤ 1000000) (hT : RO noS w (.all T)) (hs : SubEs T A l) (hI : exsI l) (hll : LenOk l.length) :
    Calls Try.prog 47 #[(.slice A l.length c), (.int .i64 most)] w (Ret fun v w' => ∃ r, v = .int .i64 r ∧ (Cnt most 0 (exsN l) r ∧ r ≤ most + 1) ∧ Mem noS w w' []) := by
 unfold LenOk at hll
 refine zen 35 [(.slice A l.length c), (.int .i64 most)] Try.func47 ?_
 have hM := Mem.init w
 refine zsp <| zsp <| zsq <| zsp <| zbk 0 ?_
 intro aC fr
 refine zlp (fun n_ a_ w_ => ∃ (j : Nat) (nj : Int), n_ = l.length - j ∧ Fr a_ 35 [(0, (.slice A l.length c)), (1, (.int .i64 most)), (5, (.int .i64 nj)), (6, (nV j))] ∧ Mem noS w w_ [] ∧ (j ≤ l.length) ∧ (Cnt most 0 (exsN (l.take j)) nj) ∧ (nj ≤ most + 1)) (n := _) ⟨0, 0, rfl, fr.kp [0, 1, 5, 6], hM, Nat.zero_le _, by rw [List.take_zero]; exact Cnt.zero, by omega⟩ ?_
 clear fr aC hM; rintro n aC w3 ⟨j, nj, rfl, fr, M4, hj, hc, hb⟩
 revert aC
 refine zsq <| zsr <| zpn 5 ?_
 obtain ⟨B7, hB7⟩ : ∃ B : Bool, B = decide (((j : Int) : Int) < ((l.length : Nat) : Int)) := ⟨_, rfl⟩
 refine zkp [(0, (.slice A l.length c)), (1, (.int .i64 most)), (5, (.int .i64 nj)), (6, (nV j)), (11, (.bool (decide (((j : Int) : Int) < ((l.length : Nat) : Int)))))] ?_
 rw [← hB7]
 have iB7 : B7 = true ↔ (((j : Int) : Int) < ((l.length : Nat) : Int)) := by rw [hB7]; simp only [decide_eq_true_eq]
 clear hB7
 intro aC fr
 refine zpk 4 9 [15] fr (news := [(15, (.bool (B7 && decide ((nj : Int) ≤ most))))]) (by cases B7 <;> kernel_rfl) ?_
 intro aC fr
 revert aC
 refine zfe <| zcP (B7 && decide ((nj : Int) ≤ most)) ((((j : Int) : Int) < ((l.length : Nat) : Int)) ∧ ((nj : Int) ≤ most)) (by simp only [Bool.and_eq_true, decide_eq_true_eq, iB7]) (fun c12 => ?_) (fun c12 => ?_)
 refine zsk <| zsq <| zbk 1 <| zsr ?_
 have hcb := hc.le
 obtain ⟨k, hk⟩ := get_of (l := l) (i := j) (by omega)
 have hkm := List.mem_of_getElem? hk
 have hkI := exsI_mem hI hkm
 refine zpn 1 <| zar (nj + 1) <| zpn 1 <| zfe <| zsp <| zcD (((nj + 1) : Int) ≤ most) (fun c13 => ?_) (fun c13 => ?_)
 refine zrg <| zpn 3 ?_
 obtain ⟨ad14, rfl⟩ := rds_some (M4.ro (hT.sub hs.1)) (cs := k.cells) (i := j) (by rw [List.getElem?_map, hk]; rfl)
 refine zix ad14 l.length 4 (j : Int) <| zpn 1 ?_
 refine zld (((ad14 : Addr).add (((j : Int)).toNat * 4)).add 3) (.slice k.A k.kids.length k.c) (rds_get (M4.ro (hT.sub hs.1)) rfl (i := j) (cs := k.cells) (by rw [List.getElem?_map, hk]; rfl) 3 _ rfl) ?_
 refine zpn 2 <| zar (most - (nj + 1)) <| zcl (vs := #[(.slice k.A k.kids.length k.c), (.int .i64 (most - (nj + 1)))]) (ih k hkm k.A k.c _ T w3 (by omega) (by omega) (hT.at_ M4) (hs.2 k hkm).kids hkI.kids hkI.own.kids) ?_
 rintro _ w16 ⟨r15, rfl, ⟨hrk, hrb⟩, M17x⟩
 have M17 := M4.cl M17x
 have hrl := hrk.le
 refine zkp [(0, (.slice (some ad14) l.length c)), (1, (.int .i64 most)), (6, (nV j)), (23, (.int .i64 (nj + 1))), (32, (.int .i64 r15))] <| zar ((nj + 1) + r15) <| zpn 1 <| zfe <| zrg <| zpn 1 <| zar ((j : Int) + 1) <| zpn 1 <| zfe ?_
 intro aC fr
 exact ⟨l.length - (j + 1), by omega, j + 1, ((nj + 1) + r15), rfl, fr.kp [0, 1, 5, 6], M17, by omega, ((hc.trans Cnt.one).trans hrk.sh).cast (by rw [exsN_take hk, exN_eq]; omega), by omega⟩
 refine zsk <| zrg <| zpn 1 <| zar ((j : Int) + 1) <| zpn 1 <| zfe ?_
 intro aC fr
 exact ⟨l.length - (j + 1), by omega, j + 1, (nj + 1), rfl, fr.kp [0, 1, 5, 6], M4, by omega, ((hc.trans Cnt.one).stop (k' := (exsN k.kids : Int)) (by omega) (by omega)).cast (by rw [exsN_take hk, exN_eq]; omega), by omega⟩
 refine zex 0 <| zbh <| zsp <| zre <| zo1 (.int .i64 nj) ?_
 exact ⟨nj, rfl, ⟨cnt_exs hc (by omega), hb⟩, M4⟩
theorem teck_step (l : List MEx) (ih : ∀ k, k ∈ l → ECk Try.prog k.kids) : ECk Try.prog l := fun A c most T w h0 h1 hT hs hI hll => teck_c l ih A c most T w h0 h1 hT hs hI hll
theorem teck_x (e : MEx) : ECk Try.prog e.kids := MEx.ind (p := fun e => ECk Try.prog e.kids) (fun e h => teck_step e.kids h) e
theorem teck_all (l : List MEx) : ECk Try.prog l := teck_step l (fun x _ => teck_x x)
set_option maxHeartbeats 1000000 in
theorem tsck_c (l : List MSt) (ih : ∀ x, x ∈ l → SCk Try.prog x.body ∧ SCk Try.prog x.els) (A : Option Addr) (c : Nat) (most : Int) (T : List Res) (w : World) (hm0 : 0 ≤ most) (hm1 : most ≤ 1000000) (hT : RO noS w (.all T)) (hs : SubXs T A l) (hI : stsI l) (hll : LenOk l.length) :
    Calls Try.prog 24 #[(.slice A l.length c), (.int .i64 most)] w (Ret fun v w' => ∃ r, v = .int .i64 r ∧ (Cnt most 0 (stsN l) r ∧ r ≤ most + 2) ∧ Mem noS w w' []) := by
 unfold LenOk at hll
 refine zen 59 [(.slice A l.length c), (.int .i64 most)] Try.func24 ?_
 have hM := Mem.init w
 refine zsp <| zsp <| zsq <| zsp <| zbk 0 ?_
 intro aC fr
 refine zlp (fun n_ a_ w_ => ∃ (j : Nat) (nj : Int), n_ = l.length - j ∧ Fr a_ 59 [(0, (.slice A l.length c)), (1, (.int .i64 most)), (5, (.int .i64 nj)), (6, (nV j))] ∧ Mem noS w w_ [] ∧ (j ≤ l.length) ∧ (Cnt most 0 (stsN (l.take j)) nj) ∧ (nj ≤ most + 2)) (n := _) ⟨0, 0, rfl, fr.kp [0, 1, 5, 6], hM, Nat.zero_le _, by rw [List.take_zero]; exact Cnt.zero, by omega⟩ ?_
 clear fr aC hM; rintro n aC w3 ⟨j, nj, rfl, fr, M4, hj, hc, hb⟩
 revert aC
 refine zsq <| zsr <| zpn 5 ?_
 obtain ⟨B7, hB7⟩ : ∃ B : Bool, B = decide (((j : Int) : Int) < ((l.length : Nat) : Int)) := ⟨_, rfl⟩
 refine zkp [(0, (.slice A l.length c)), (1, (.int .i64 most)), (5, (.int .i64 nj)), (6, (nV j)), (11, (.bool (decide (((j : Int) : Int) < ((l.length : Nat) : Int)))))] ?_
 rw [← hB7]
 have iB7 : B7 = true ↔ (((j : Int) : Int) < ((l.length : Nat) : Int)) := by rw [hB7]; simp only [decide_eq_true_eq]
 clear hB7
 intro aC fr
 refine zpk 4 9 [15] fr (news := [(15, (.bool (B7 && decide ((nj : Int) ≤ most))))]) (by cases B7 <;> kernel_rfl) ?_
 intro aC fr
 revert aC
 refine zfe <| zcP (B7 && decide ((nj : Int) ≤ most)) ((((j : Int) : Int) < ((l.length : Nat) : Int)) ∧ ((nj : Int) ≤ most)) (by simp only [Bool.and_eq_true, decide_eq_true_eq, iB7]) (fun c12 => ?_) (fun c12 => ?_)
 refine zsk <| zsq <| zbk 1 <| zsr ?_
 have hcb := hc.le
 obtain ⟨x, hx⟩ := get_of (l := l) (i := j) (by omega)
 have hxm := List.mem_of_getElem? hx
 have hxI := stsI_mem hI hxm
 have hsx := hs.2 x hxm
 refine zpn 1 <| zar (nj + 1) <| zpn 2 ?_
 obtain ⟨ad13, rfl⟩ := rds_some (M4.ro (hT.sub hs.1)) (cs := x.cells) (i := j) (by rw [List.getElem?_map, hx]; rfl)
 refine zix ad13 l.length 5 (j : Int) <| zpn 1 ?_
 refine zld (((ad13 : Addr).add (((j : Int)).toNat * 5)).add 2) (.slice x.eA x.exprs.length x.ec) (rds_get (M4.ro (hT.sub hs.1)) rfl (i := j) (cs := x.cells) (by rw [List.getElem?_map, hx]; rfl) 2 _ rfl) ?_
 refine zpn 2 <| zar (most - nj) <| zcl (vs := #[(.slice x.eA x.exprs.length x.ec), (.int .i64 (most - nj))]) (teck_all x.exprs x.eA x.ec _ T w3 (by omega) (by omega) (hT.at_ M4) hsx.exprs hxI.exprs hxI.own.exprs) ?_
 rintro _ w15 ⟨r14, rfl, ⟨hre, hqe⟩, M16x⟩
 have M16 := M4.cl M16x
 have hze := hre.le
 refine zar ((nj + 1) + r14) <| zpn 1 <| zfe <| zsq <| zsp <| zcD ((((nj + 1) + r14) : Int) ≤ most) (fun c17 => ?_) (fun c17 => ?_)
 refine zrg <| zpn 3 <| zix ad13 l.length 5 (j : Int) <| zkp [(0, (.slice (some ad13) l.length c)), (1, (.int .i64 most)), (5, (.int .i64 ((nj + 1) + r14))), (6, (nV j)), (33, (.int .i64 ((nj + 1) + r14))), (36, (.pointer (some ((ad13 : Addr).add (((j : Int)).toNat * 5)))))] <| zpn 1 ?_
 refine zld (((ad13 : Addr).add (((j : Int)).toNat * 5)).add 3) (.slice x.bA x.body.length x.bc) (rds_get (M16.ro (hT.sub hs.1)) rfl (i := j) (cs := x.cells) (by rw [List.getElem?_map, hx]; rfl) 3 _ rfl) ?_
 refine zpn 2 <| zar (most - ((nj + 1) + r14)) <| zcl (vs := #[(.slice x.bA x.body.length x.bc), (.int .i64 (most - ((nj + 1) + r14)))]) ((ih x hxm).1 x.bA x.bc _ T w15 (by omega) (by omega) (hT.at_ M16) hsx.body hxI.body hxI.own.body) ?_
 rintro _ w19 ⟨r18, rfl, ⟨hrb, hqb⟩, M20x⟩
 have M20 := M16.cl M20x
 have hzb := hrb.le
 refine zar (((nj + 1) + r14) + r18) <| zpn 1 <| zfe <| zsp <| zcD (((((nj + 1) + r14) + r18) : Int) ≤ most) (fun c21 => ?_) (fun c21 => ?_)
 refine zrg <| zpn 3 <| zix ad13 l.length 5 (j : Int) <| zpn 1 ?_
 refine zld (((ad13 : Addr).add (((j : Int)).toNat * 5)).add 4) (.slice x.lA x.els.length x.lc) (rds_get (M20.ro (hT.sub hs.1)) rfl (i := j) (cs := x.cells) (by rw [List.getElem?_map, hx]; rfl) 4 _ rfl) ?_
 refine zkp [(0, (.slice (some ad13) l.length c)), (1, (.int .i64 most)), (5, (.int .i64 (((nj + 1) + r14) + r18))), (6, (nV j)), (47, (.int .i64 (((nj + 1) + r14) + r18))), (52, (.slice x.lA x.els.length x.lc))] <| zpn 2 <| zar (most - (((nj + 1) + r14) + r18)) <| zcl (vs := #[(.slice x.lA x.els.length x.lc), (.int .i64 (most - (((nj + 1) + r14) + r18)))]) ((ih x hxm).2 x.lA x.lc _ T w19 (by omega) (by omega) (hT.at_ M20) hsx.els hxI.els hxI.own.els) ?_
 rintro _ w23 ⟨r22, rfl, ⟨hrl, hql⟩, M24x⟩
 have M24 := M20.cl M24x
 have hzl := hrl.le
 refine zar ((((nj + 1) + r14) + r18) + r22) <| zpn 1 <| zfe <| zrg <| zpn 1 <| zar ((j : Int) + 1) <| zpn 1 <| zfe ?_
 intro aC fr
 exact ⟨l.length - (j + 1), by omega, j + 1, ((((nj + 1) + r14) + r18) + r22), rfl, fr.kp [0, 1, 5, 6], M24, by omega, ((((hc.trans Cnt.one).trans hre.sh1).trans hrb.sh).trans hrl.sh).cast (by rw [stsN_take hx, stN_eq]; omega), by omega⟩
 refine zsk <| zrg <| zpn 1 <| zar ((j : Int) + 1) <| zpn 1 <| zfe ?_
 intro aC fr
 exact ⟨l.length - (j + 1), by omega, j + 1, (((nj + 1) + r14) + r18), rfl, fr.kp [0, 1, 5, 6], M20, by omega, ((((hc.trans Cnt.one).trans hre.sh1).trans hrb.sh).stop (k' := (stsN x.els : Int)) (by omega) (by omega)).cast (by rw [stsN_take hx, stN_eq]; omega), by omega⟩
 refine zsk <| zsp <| zcD ((((nj + 1) + r14) : Int) ≤ most) (fun c29 => ?_) (fun c29 => ?_)
 refine zrg <| zpn 3 <| zix ad13 l.length 5 (j : Int) <| zkp [(0, (.slice (some ad13) l.length c)), (1, (.int .i64 most)), (5, (.int .i64 ((nj + 1) + r14))), (6, (nV j)), (47, (.int .i64 ((nj + 1) + r14))), (50, (.pointer (some ((ad13 : Addr).add (((j : Int)).toNat * 5)))))] <| zpn 1 ?_
 refine zld (((ad13 : Addr).add (((j : Int)).toNat * 5)).add 4) (.slice x.lA x.els.length x.lc) (rds_get (M16.ro (hT.sub hs.1)) rfl (i := j) (cs := x.cells) (by rw [List.getElem?_map, hx]; rfl) 4 _ rfl) ?_
 refine zpn 2 <| zar (most - ((nj + 1) + r14)) <| zcl (vs := #[(.slice x.lA x.els.length x.lc), (.int .i64 (most - ((nj + 1) + r14)))]) ((ih x hxm).2 x.lA x.lc _ T w15 (by omega) (by omega) (hT.at_ M16) hsx.els hxI.els hxI.own.els) ?_
 rintro _ w31 ⟨r30, rfl, ⟨hrl, hql⟩, M32x⟩
 have M32 := M16.cl M32x
 have hzl := hrl.le
 refine zar (((nj + 1) + r14) + r30) <| zpn 1 <| zfe <| zrg <| zpn 1 <| zar ((j : Int) + 1) <| zpn 1 <| zfe ?_
 intro aC fr
 exact ⟨l.length - (j + 1), by omega, j + 1, (((nj + 1) + r14) + r30), rfl, fr.kp [0, 1, 5, 6], M32, by omega, ((((hc.trans Cnt.one).trans hre.sh1).stop (k' := (stsN x.body : Int)) (by omega) (by omega)).trans hrl.sh).cast (by rw [stsN_take hx, stN_eq]; omega), by omega⟩
 refine zsk <| zrg <| zpn 1 <| zar ((j : Int) + 1) <| zkp [(0, (.slice (some ad13) l.length c)), (1, (.int .i64 most)), (5, (.int .i64 ((nj + 1) + r14))), (17, (.int .i64 ((j : Int) + 1)))] <| zpn 1 <| zfe ?_
 intro aC fr
 exact ⟨l.length - (j + 1), by omega, j + 1, ((nj + 1) + r14), rfl, fr.kp [0, 1, 5, 6], M16, by omega, ((((hc.trans Cnt.one).trans hre.sh1).stop (k' := (stsN x.body : Int)) (by omega) (by omega)).stop (k' := (stsN x.els : Int)) (by omega) (by omega)).cast (by rw [stsN_take hx, stN_eq]; omega), by omega⟩
 refine zex 0 <| zbh <| zsp <| zre <| zo1 (.int .i64 nj) ?_
 exact ⟨nj, rfl, ⟨cnt_sts hc (by omega), hb⟩, M4⟩
theorem tsck_step (l : List MSt) (ih : ∀ x, x ∈ l → SCk Try.prog x.body ∧ SCk Try.prog x.els) : SCk Try.prog l := fun A c most T w h0 h1 hT hs hI hll => tsck_c l ih A c most T w h0 h1 hT hs hI hll
theorem tsck_x (x : MSt) : SCk Try.prog x.body ∧ SCk Try.prog x.els := MSt.ind (p := fun x => SCk Try.prog x.body ∧ SCk Try.prog x.els) (fun e hb hl => ⟨tsck_step e.body hb, tsck_step e.els hl⟩) x
theorem tsck_all (l : List MSt) : SCk Try.prog l := tsck_step l (fun x _ => tsck_x x)
end Go.Proofs.Ytdcgcjibgihbbaa
namespace Go.Proofs.Ytdcgcjibgihbbaa
open Go.Mor
set_option maxHeartbeats 1000000 in
theorem tgreat_c (m : TMod) (w : World) (hR : RO noS w (.all m.parts)) (hI : m.In0) :
    Calls Try.prog 9 #[(.agg #[(.string m.pkg), (.slice m.fA m.fns.length m.fc), (.slice m.dA m.dats.length m.dc)])] w (Ret fun v w' => ∃ B, v = .bool B ∧ (B = false → SmB m) ∧ Mem noS w w' []) := by
 have hnf := hI.nf
 have hnd := hI.nd
 unfold LenOk at hnf hnd
 refine zen 77 [(.agg #[(.string m.pkg), (.slice m.fA m.fns.length m.fc), (.slice m.dA m.dats.length m.dc)])] Try.func9 ?_
 have hM := Mem.init w
 refine zsr <| zbx hM 25 (.agg #[(.string m.pkg), (.slice m.fA m.fns.length m.fc), (.slice m.dA m.dats.length m.dc)]) [(.string m.pkg), (.slice m.fA m.fns.length m.fc), (.slice m.dA m.dats.length m.dc)] fun b1 w2 hb1 M3 => ?_
 replace M3 := M3.nf
 clear hM
 refine zpn 1 <| zfe <| zsr <| zpn 1 <| zld ⟨b1, 1, none⟩ (.slice m.fA m.fns.length m.fc) (blk_cell (M3.get 0 rfl) rfl) <| zpn 2 <| zld ⟨b1, 2, none⟩ (.slice m.dA m.dats.length m.dc) (blk_cell (M3.get 0 rfl) rfl) <| zpn 1 <| zar (((m.fns.length : Nat) : Int) + ((m.dats.length : Nat) : Int)) <| zpn 1 ?_
 refine zfe <| zsq <| zsp <| zbk 0 ?_
 intro aC fr
 refine zlp (fun n_ a_ w_ => ∃ (j : Nat) (nj : Int), n_ = m.fns.length - j ∧ Fr a_ 77 [(1, (pT b1 0)), (3, (.int .i64 nj)), (4, (nV j))] ∧ Mem noS w w_ [.blk b1 25 [(.string m.pkg), (.slice m.fA m.fns.length m.fc), (.slice m.dA m.dats.length m.dc)]] ∧ (j ≤ m.fns.length) ∧ (nj ≤ 25000 → nj = ((m.fns.length + m.dats.length + fnsN (m.fns.take j) : Nat) : Int)) ∧ (0 ≤ nj) ∧ (nj ≤ 562949953500000)) (n := _) ⟨0, (((m.fns.length : Nat) : Int) + ((m.dats.length : Nat) : Int)), rfl, fr.kp [1, 3, 4], M3, Nat.zero_le _, fun _ => by rw [List.take_zero]; show _ = ((m.fns.length + m.dats.length + 0 : Nat) : Int); omega, by omega, by omega⟩ ?_
 clear fr aC M3; rintro n aC w6 ⟨j, nj, rfl, fr, M7, hj, hc, hn0, hn1⟩
 revert aC
 refine zsq <| zsr <| zpn 2 <| zld ⟨b1, 1, none⟩ (.slice m.fA m.fns.length m.fc) (blk_cell (M7.get 0 rfl) rfl) <| zpn 3 ?_
 obtain ⟨B10, hB10⟩ : ∃ B : Bool, B = decide (((j : Int) : Int) < ((m.fns.length : Nat) : Int)) := ⟨_, rfl⟩
 refine zkp [(1, (pT b1 0)), (3, (.int .i64 nj)), (4, (nV j)), (18, (.bool (decide (((j : Int) : Int) < ((m.fns.length : Nat) : Int)))))] ?_
 rw [← hB10]
 have iB10 : B10 = true ↔ (((j : Int) : Int) < ((m.fns.length : Nat) : Int)) := by rw [hB10]; simp only [decide_eq_true_eq]
 clear hB10
 intro aC fr
 refine zpk 3 9 [21] fr (news := [(21, (.bool (B10 && decide ((nj : Int) ≤ 25000))))]) (by cases B10 <;> kernel_rfl) ?_
 intro aC fr
 revert aC
 refine zfe <| zcP (B10 && decide ((nj : Int) ≤ 25000)) ((((j : Int) : Int) < ((m.fns.length : Nat) : Int)) ∧ ((nj : Int) ≤ 25000)) (by simp only [Bool.and_eq_true, decide_eq_true_eq, iB10]) (fun c15 => ?_) (fun c15 => ?_)
 refine zsk <| zsq <| zbk 1 <| zrg ?_
 obtain ⟨f, hf⟩ := get_of (l := m.fns) (i := j) (by omega)
 have hfm := List.mem_of_getElem? hf
 have hfI := hI.fns f hfm
 refine zpn 2 <| zld ⟨b1, 1, none⟩ (.slice m.fA m.fns.length m.fc) (blk_cell (M7.get 0 rfl) rfl) <| zpn 1 ?_
 obtain ⟨ad16, had17⟩ := rds_some (M7.ro hR.m_fns) (cs := f.cells) (i := j) (by rw [List.getElem?_map, hf]; rfl)
 intro aC fr
 refine From_ixA (some 28) m.fA ad16 m.fns.length 5 (j : Int) fr (by kernel_rfl) had17 (by omega) (by omega) ?_
 intro aC fr
 revert aC
 refine zpn 1 ?_
 refine zld (((ad16 : Addr).add (((j : Int)).toNat * 5)).add 4) (.slice f.A f.body.length f.c) (rds_get (M7.ro hR.m_fns) had17 (i := j) (cs := f.cells) (by rw [List.getElem?_map, hf]; rfl) 4 _ rfl) ?_
 refine zpn 1 <| zar (25000 - nj) <| zcl (vs := #[(.slice f.A f.body.length f.c), (.int .i64 (25000 - nj))]) (tsck_all f.body f.A f.c _ _ w6 (by omega) (by omega) (hR.m_tree.at_ M7) (sub_fn hfm) hfI.body hfI.len) ?_
 rintro _ w23 ⟨r22, rfl, ⟨hrk, hrb⟩, M24x⟩
 have M24 := M7.cl M24x
 unfold Cnt at hrk
 refine zar (nj + r22) <| zpn 1 <| zfe <| zrg <| zpn 1 <| zar ((j : Int) + 1) <| zkp [(1, (pT b1 0)), (3, (.int .i64 (nj + r22))), (23, (.int .i64 ((j : Int) + 1)))] <| zpn 1 <| zfe ?_
 intro aC fr
 exact ⟨m.fns.length - (j + 1), by omega, j + 1, (nj + r22), rfl, fr.kp [1, 3, 4], (M24.tk 1), by omega, fun h_ => by have e1 := hc (by omega); rw [fnsN_take hf]; omega, by omega, by omega⟩
 refine zex 0 <| zbh <| zsq <| zsp <| zbk 2 ?_
 intro aC fr
 refine zlp (fun n_ a_ w_ => ∃ (k : Nat) (nk : Int), n_ = m.dats.length - k ∧ Fr a_ 77 [(1, (pT b1 0)), (3, (.int .i64 nk)), (5, (nV k))] ∧ Mem noS w w_ [.blk b1 25 [(.string m.pkg), (.slice m.fA m.fns.length m.fc), (.slice m.dA m.dats.length m.dc)]] ∧ (k ≤ m.dats.length) ∧ (nk ≤ 25000 → nk = ((m.fns.length + m.dats.length + fnsN m.fns + datS (m.dats.take k) : Nat) : Int)) ∧ (0 ≤ nk) ∧ (nk ≤ 562949953600000)) (n := _) ⟨0, nj, rfl, fr.kp [1, 3, 5], M7, Nat.zero_le _, fun h_ => by have e1 := hc h_; rw [List.take_of_length_le (by omega)] at e1; rw [List.take_zero]; show _ = ((m.fns.length + m.dats.length + fnsN m.fns + 0 : Nat) : Int); omega, by omega, by omega⟩ ?_
 clear fr aC M7; rintro n aC w29 ⟨k, nk, rfl, fr, M30, hk, hd, hk0, hk1⟩
 revert aC
 refine zsq <| zsr <| zpn 2 <| zld ⟨b1, 2, none⟩ (.slice m.dA m.dats.length m.dc) (blk_cell (M30.get 0 rfl) rfl) <| zpn 3 ?_
 obtain ⟨B33, hB33⟩ : ∃ B : Bool, B = decide (((k : Int) : Int) < ((m.dats.length : Nat) : Int)) := ⟨_, rfl⟩
 refine zkp [(1, (pT b1 0)), (3, (.int .i64 nk)), (5, (nV k)), (40, (.bool (decide (((k : Int) : Int) < ((m.dats.length : Nat) : Int)))))] ?_
 rw [← hB33]
 have iB33 : B33 = true ↔ (((k : Int) : Int) < ((m.dats.length : Nat) : Int)) := by rw [hB33]; simp only [decide_eq_true_eq]
 clear hB33
 intro aC fr
 refine zpk 3 9 [43] fr (news := [(43, (.bool (B33 && decide ((nk : Int) ≤ 25000))))]) (by cases B33 <;> kernel_rfl) ?_
 intro aC fr
 revert aC
 refine zfe <| zcP (B33 && decide ((nk : Int) ≤ 25000)) ((((k : Int) : Int) < ((m.dats.length : Nat) : Int)) ∧ ((nk : Int) ≤ 25000)) (by simp only [Bool.and_eq_true, decide_eq_true_eq, iB33]) (fun c38 => ?_) (fun c38 => ?_)
 refine zsk <| zsq <| zbk 3 ?_
 obtain ⟨d, hd1⟩ := get_of (l := m.dats) (i := k) (by omega)
 have hdI := hI.dats d (List.mem_of_getElem? hd1)
 have hdw := hdI.2.1
 have hdr := hdI.2.2.1
 unfold LenOk at hdw hdr
 obtain ⟨ad39, had40⟩ := rds_some (M30.ro hR.m_dats) (cs := d.cells) (i := k) (by rw [List.getElem?_map, hd1]; rfl)
 obtain ⟨ad41, had42⟩ := rds_some (M30.ro hR.m_dats) (cs := d.cells) (i := k) (by rw [List.getElem?_map, hd1]; rfl)
 refine zkp [(1, (pT b1 0)), (3, (.int .i64 nk)), (5, (nV k))] ?_
 intro aC fr
 refine zdt 18 (N := 77) (env0 := [(1, (pT b1 0)), (3, (.int .i64 nk)), (5, (nV k))]) (specAt [.det (.int .i64 nk), .det (pT b1 2), .det (.slice m.dA m.dats.length m.dc), .det (nV k), .det (.pointer (some ((ad39 : Addr).add (((k : Int)).toNat * 4)))), .det (.pointer (some (((ad39 : Addr).add (((k : Int)).toNat * 4)).add 2))), .det (.slice d.wA d.words.length d.wc), .det (.int .i64 ((d.words.length : Nat) : Int)), .det (.int .i64 (min ((d.words.length : Nat) : Int) 30000)), .det (.int .i64 (nk + (min ((d.words.length : Nat) : Int) 30000))), .det (pT b1 2), .det (.slice m.dA m.dats.length m.dc), .det (nV k), .det (.pointer (some ((ad41 : Addr).add (((k : Int)).toNat * 4)))), .det (.pointer (some (((ad41 : Addr).add (((k : Int)).toNat * 4)).add 3))), .det (.slice d.rA d.refs.length d.rc), .det (.int .i64 ((d.refs.length : Nat) : Int)), .det (.int .i64 (min ((d.refs.length : Nat) : Int) 30000))]) fr (la (la (la (la (la (la (la (la (la (la (la (la (la (la (la (la (la (la lz dP) dP) (dL ⟨b1, 2, none⟩ (.slice m.dA m.dats.length m.dc) fun w_ hK => (blk_cell ((M30.then_ hK).get 0 rfl) rfl))) dP) (dIA m.dA ad39 m.dats.length 4 (k : Int) had40)) dP) (dL (((ad39 : Addr).add (((k : Int)).toNat * 4)).add 2) (.slice d.wA d.words.length d.wc) fun w_ hK => (rds_get ((M30.then_ hK).ro hR.m_dats) had40 (i := k) (cs := d.cells) (by rw [List.getElem?_map, hd1]; rfl) 2 _ rfl))) dP) (dMN .i64 ((d.words.length : Nat) : Int) 30000 (min ((d.words.length : Nat) : Int) 30000) (.tmp 53) (.const (.int .i64 30000)) #[3, 3] 3 none (by omega))) (dA (nk + (min ((d.words.length : Nat) : Int) 30000)))) dP) (dL ⟨b1, 2, none⟩ (.slice m.dA m.dats.length m.dc) fun w_ hK => (blk_cell ((M30.then_ hK).get 0 rfl) rfl))) dP) (dIA m.dA ad41 m.dats.length 4 (k : Int) had42)) dP) (dL (((ad41 : Addr).add (((k : Int)).toNat * 4)).add 3) (.slice d.rA d.refs.length d.rc) fun w_ hK => (rds_get ((M30.then_ hK).ro hR.m_dats) had42 (i := k) (cs := d.cells) (by rw [List.getElem?_map, hd1]; rfl) 3 _ rfl))) dP) (dMN .i64 ((d.refs.length : Nat) : Int) 30000 (min ((d.refs.length : Nat) : Int) 30000) (.tmp 62) (.const (.int .i64 30000)) #[3, 3] 3 none (by omega))) ?_
 intro aC w47 vs hK hv fr
 revert aC; refine zkp [(1, (pT b1 0)), (5, (nV k)), (55, (.int .i64 (nk + (min ((d.words.length : Nat) : Int) 30000)))), (63, (.int .i64 (min ((d.refs.length : Nat) : Int) 30000)))] ?_
 have M48 := M30.then_ hK
 clear hK hv fr aC M30; clear vs
 refine zar ((nk + (min ((d.words.length : Nat) : Int) 30000)) + (min ((d.refs.length : Nat) : Int) 30000)) <| zpn 1 <| zfe <| zrg <| zpn 1 <| zar ((k : Int) + 1) <| zpn 1 <| zfe ?_
 intro aC fr
 exact ⟨m.dats.length - (k + 1), by omega, k + 1, ((nk + (min ((d.words.length : Nat) : Int) 30000)) + (min ((d.refs.length : Nat) : Int) 30000)), rfl, fr.kp [1, 3, 5], (M48.tk 1), by omega, fun h_ => by have e1 := hd (by omega); rw [datS_take hd1]; omega, by omega, by omega⟩
 refine zex 2 <| zbh <| zsr <| zpn 3 ?_
 obtain ⟨B51, hB51⟩ : ∃ B : Bool, B = decide ((nk : Int) > 25000) := ⟨_, rfl⟩
 refine zkp [(1, (pT b1 0)), (67, (.bool (decide ((nk : Int) > 25000))))] ?_
 rw [← hB51]
 have iB51 : B51 = true ↔ ((nk : Int) > 25000) := by rw [hB51]; simp only [decide_eq_true_eq]
 clear hB51
 intro aC fr
 refine zpk 1 4 [68] fr (news := [(68, (cond (!B51) (pT b1 1) undef))]) (by cases B51 <;> kernel_rfl) ?_
 intro aC fr
 refine From_either (B := (!B51)) (d := (some 69)) (.slice m.fA m.fns.length m.fc) fr (by cases B51 <;> kernel_rfl) (fun hB hh => ?_) ?_
 cases B51 <;> first | (exact absurd hB (by decide)) | skip
 have c51 : ¬ ((nk : Int) > 25000) := (fun h => Bool.noConfusion (iB51.2 h) : ¬ ((nk : Int) > 25000))
 exact From_ld (some 69) ⟨b1, 1, none⟩ fr (by kernel_rfl) (.slice m.fA m.fns.length m.fc) (blk_cell (M30.get 0 rfl) rfl) hh
 intro aC fr
 refine zpk 2 7 [70, 71] fr (news := [(70, (cond (!B51) (.int .i64 ((m.fns.length : Nat) : Int)) undef)), (71, (cond (!B51) (pT b1 2) undef))]) (by cases B51 <;> kernel_rfl) ?_
 intro aC fr
 refine From_either (B := (!B51)) (d := (some 72)) (.slice m.dA m.dats.length m.dc) fr (by cases B51 <;> kernel_rfl) (fun hB hh => ?_) ?_
 cases B51 <;> first | (exact absurd hB (by decide)) | skip
 have c51 : ¬ ((nk : Int) > 25000) := (fun h => Bool.noConfusion (iB51.2 h) : ¬ ((nk : Int) > 25000))
 exact From_ld (some 72) ⟨b1, 2, none⟩ fr (by kernel_rfl) (.slice m.dA m.dats.length m.dc) (blk_cell (M30.get 0 rfl) rfl) hh
 intro aC fr
 refine zpk 1 9 [73] fr (news := [(73, (cond (!B51) (.int .i64 ((m.dats.length : Nat) : Int)) undef))]) (by cases B51 <;> kernel_rfl) ?_
 intro aC fr
 refine From_either (B := (!B51)) (d := (some 74)) (.int .i64 (((m.fns.length : Nat) : Int) + ((m.dats.length : Nat) : Int))) fr (by cases B51 <;> kernel_rfl) (fun hB hh => ?_) ?_
 cases B51 <;> first | (exact absurd hB (by decide)) | skip
 have c51 : ¬ ((nk : Int) > 25000) := (fun h => Bool.noConfusion (iB51.2 h) : ¬ ((nk : Int) > 25000))
 exact From_ar (some 74) (((m.fns.length : Nat) : Int) + ((m.dats.length : Nat) : Int)) fr (z0 := ((m.fns.length : Nat) : Int) + ((m.dats.length : Nat) : Int)) (by kernel_rfl) rfl (by omega) (by omega) hh
 intro aC fr
 refine zpk 3 13 [2, 76] fr (news := [(2, (.bool (B51 || decide (((((m.fns.length : Nat) : Int) + ((m.dats.length : Nat) : Int)) : Int) > 200)))), (76, (.bool (B51 || decide (((((m.fns.length : Nat) : Int) + ((m.dats.length : Nat) : Int)) : Int) > 200))))]) (by cases B51 <;> kernel_rfl) ?_
 intro aC fr
 revert aC
 refine zfe <| zre <| zo1 (.bool (B51 || decide (((((m.fns.length : Nat) : Int) + ((m.dats.length : Nat) : Int)) : Int) > 200))) ?_
 have M68 := M30.od [] 0
 have hR : (B51 || decide (((((m.fns.length : Nat) : Int) + ((m.dats.length : Nat) : Int)) : Int) > 200)) = true ↔ (((nk : Int) > 25000) ∨ (((((m.fns.length : Nat) : Int) + ((m.dats.length : Nat) : Int)) : Int) > 200)) := by simp only [Bool.or_eq_true, decide_eq_true_eq, iB51]
 refine ⟨_, rfl, fun h_ => ?_, M68⟩
 have hn_ : ¬ (((nk : Int) > 25000) ∨ (((((m.fns.length : Nat) : Int) + ((m.dats.length : Nat) : Int)) : Int) > 200)) := fun h2 => Bool.noConfusion (h_.symm.trans (hR.2 h2))
 have hD : nk ≤ 25000 → nk = ((m.fns.length + m.dats.length + fnsN m.fns + datS m.dats : Nat) : Int) := fun h_ => by have e1 := hd h_; rw [List.take_of_length_le (by omega)] at e1; exact e1
 exact smB_of hD (by omega) (by omega)
set_option maxHeartbeats 1000000 in
theorem theavy_c (ms : List TMod) (mA : Option Addr) (mc : Nat) (bg : List ByteArray) (gA : Option Addr) (gc : Nat) (mem : Int) (inp : List Int) (iA : Option Addr) (ic : Nat) (fuel : Int) (w : World) (hI : RunIn0 w ms mA bg gA inp iA ic) :
    Calls Try.prog 14 #[(.slice mA ms.length mc), (.slice gA bg.length gc), (.int .i64 mem), (.slice iA inp.length ic), (.int .i64 fuel)] w (Ret fun v w' => ∃ B, v = .bool B ∧ (B = false → HvB ms bg mem inp fuel) ∧ Mem noS w w' []) := by
 have hl1 := hI.len
 have hl2 := hI.glen
 have hl3 := hI.ill
 unfold LenOk at hl1 hl2 hl3
 refine zen 68 [(.slice mA ms.length mc), (.slice gA bg.length gc), (.int .i64 mem), (.slice iA inp.length ic), (.int .i64 fuel)] Try.func14 ?_
 have hM := Mem.init w
 refine zsp <| zsp <| zsq <| zsp <| zbk 0 ?_
 intro aC fr
 refine zlp (fun n_ a_ w_ => ∃ (j : Nat) (nj : Int), n_ = ms.length - j ∧ Fr a_ 68 [(0, (.slice mA ms.length mc)), (1, (.slice gA bg.length gc)), (2, (.int .i64 mem)), (3, (.slice iA inp.length ic)), (4, (.int .i64 fuel)), (11, (.int .i64 nj)), (12, (nV j))] ∧ Mem noS w w_ [] ∧ (j ≤ ms.length) ∧ (j ≤ 10) ∧ (∀ (i : Nat) (m : TMod), i < j → ms[i]? = some m → SmB m) ∧ (nj = (((flF (ms.take j)).length + (flD (ms.take j)).length : Nat) : Int)) ∧ (nj ≤ 200 * j)) (n := _) ⟨0, 0, rfl, fr.kp [0, 1, 2, 3, 4, 11, 12], hM, Nat.zero_le _, Nat.zero_le _, fun i _ h_ => absurd h_ (Nat.not_lt_zero _), by simp [flF, flD], by omega⟩ ?_
 clear fr aC hM; rintro n aC w3 ⟨j, nj, rfl, fr, M4, hj, hj2, hg, hc, hb⟩
 revert aC
 refine zsq <| zsr <| zpn 5 ?_
 obtain ⟨B7, hB7⟩ : ∃ B : Bool, B = decide (((j : Int) : Int) < ((ms.length : Nat) : Int)) := ⟨_, rfl⟩
 refine zkp [(0, (.slice mA ms.length mc)), (1, (.slice gA bg.length gc)), (2, (.int .i64 mem)), (3, (.slice iA inp.length ic)), (4, (.int .i64 fuel)), (11, (.int .i64 nj)), (12, (nV j)), (17, (.bool (decide (((j : Int) : Int) < ((ms.length : Nat) : Int)))))] ?_
 rw [← hB7]
 have iB7 : B7 = true ↔ (((j : Int) : Int) < ((ms.length : Nat) : Int)) := by rw [hB7]; simp only [decide_eq_true_eq]
 clear hB7
 intro aC fr
 refine zpk 3 8 [20] fr (news := [(20, (.bool (B7 && decide (((j : Int) : Int) < 10))))]) (by cases B7 <;> kernel_rfl) ?_
 intro aC fr
 revert aC
 refine zfe <| zcP (B7 && decide (((j : Int) : Int) < 10)) ((((j : Int) : Int) < ((ms.length : Nat) : Int)) ∧ (((j : Int) : Int) < 10)) (by simp only [Bool.and_eq_true, decide_eq_true_eq, iB7]) (fun c12 => ?_) (fun c12 => ?_)
 refine zsk <| zsq <| zbk 1 <| zsq <| zsr ?_
 obtain ⟨m, hm⟩ := get_of (l := ms) (i := j) (by omega)
 have hmm := List.mem_of_getElem? hm
 refine zpn 2 ?_
 obtain ⟨ad13, rfl⟩ := rds_some (M4.ro hI.mods.mcells) (cs := m.cells) (i := j) (by rw [List.getElem?_map, hm]; rfl)
 refine zix ad13 ms.length 3 (j : Int) ?_
 refine zls ((ad13 : Addr).add (((j : Int)).toNat * 3)) [(.string m.pkg), (.slice m.fA m.fns.length m.fc), (.slice m.dA m.dats.length m.dc)] (rds_cells (i := j) (M4.ro hI.mods.mcells) rfl (by rw [List.getElem?_map, hm]; rfl)) ?_
 refine zcl (tgreat_c m w3 ((hI.mods.mod_of hmm).at_ M4) (hI.ins m hmm)) ?_
 rintro _ w15 ⟨B14, rfl, hBg, M16x⟩
 have M16 := M4.cl M16x
 refine zfe <| zcP B14 (B14 = true) Iff.rfl (fun c17 => ?_) (fun c17 => ?_)
 refine zsp <| zre <| zbr <| zbr <| zo1 (.bool true) ?_
 exact ⟨_, rfl, fun h_ => Bool.noConfusion h_, M16⟩
 replace c17 : B14 = false := Bool.eq_false_iff.2 c17
 have hSm := hBg c17
 have hSc := hSm.cnt
 have ht1 := flF_take hm
 have ht2 := flD_take hm
 refine zsk <| zkp [(0, (.slice (some ad13) ms.length mc)), (1, (.slice gA bg.length gc)), (2, (.int .i64 mem)), (3, (.slice iA inp.length ic)), (4, (.int .i64 fuel)), (11, (.int .i64 nj)), (12, (nV j))] ?_
 intro aC fr
 refine zdt 14 (N := 68) (env0 := [(0, (.slice (some ad13) ms.length mc)), (1, (.slice gA bg.length gc)), (2, (.int .i64 mem)), (3, (.slice iA inp.length ic)), (4, (.int .i64 fuel)), (11, (.int .i64 nj)), (12, (nV j))]) (specAt [.det (.int .i64 nj), .det (.slice (some ad13) ms.length mc), .det (nV j), .det (.pointer (some ((ad13 : Addr).add (((j : Int)).toNat * 3)))), .det (.pointer (some (((ad13 : Addr).add (((j : Int)).toNat * 3)).add 1))), .det (.slice m.fA m.fns.length m.fc), .det (.int .i64 ((m.fns.length : Nat) : Int)), .det (.int .i64 (nj + ((m.fns.length : Nat) : Int))), .det (.slice (some ad13) ms.length mc), .det (nV j), .det (.pointer (some ((ad13 : Addr).add (((j : Int)).toNat * 3)))), .det (.pointer (some (((ad13 : Addr).add (((j : Int)).toNat * 3)).add 2))), .det (.slice m.dA m.dats.length m.dc), .det (.int .i64 ((m.dats.length : Nat) : Int))]) fr (la (la (la (la (la (la (la (la (la (la (la (la (la (la lz dP) dP) dP) (dI ad13 ms.length 3 (j : Int))) dP) (dL (((ad13 : Addr).add (((j : Int)).toNat * 3)).add 1) (.slice m.fA m.fns.length m.fc) fun w_ hK => (rds_get ((M16.then_ hK).ro hI.mods.mcells) rfl (i := j) (cs := m.cells) (by rw [List.getElem?_map, hm]; rfl) 1 _ rfl))) dP) (dA (nj + ((m.fns.length : Nat) : Int)))) dP) dP) (dI ad13 ms.length 3 (j : Int))) dP) (dL (((ad13 : Addr).add (((j : Int)).toNat * 3)).add 2) (.slice m.dA m.dats.length m.dc) fun w_ hK => (rds_get ((M16.then_ hK).ro hI.mods.mcells) rfl (i := j) (cs := m.cells) (by rw [List.getElem?_map, hm]; rfl) 2 _ rfl))) dP) ?_
 intro aC w22 vs hK hv fr
 revert aC; refine zkp [(0, (.slice (some ad13) ms.length mc)), (1, (.slice gA bg.length gc)), (2, (.int .i64 mem)), (3, (.slice iA inp.length ic)), (4, (.int .i64 fuel)), (12, (nV j)), (35, (.int .i64 (nj + ((m.fns.length : Nat) : Int)))), (41, (.int .i64 ((m.dats.length : Nat) : Int)))] ?_
 have M23 := M16.then_ hK
 clear hK hv fr aC M16; clear vs
 refine zar ((nj + ((m.fns.length : Nat) : Int)) + ((m.dats.length : Nat) : Int)) <| zpn 1 <| zfe <| zrg <| zpn 1 <| zar ((j : Int) + 1) <| zpn 1 <| zfe ?_
 intro aC fr
 exact ⟨ms.length - (j + 1), by omega, j + 1, ((nj + ((m.fns.length : Nat) : Int)) + ((m.dats.length : Nat) : Int)), rfl, fr.kp [0, 1, 2, 3, 4, 11, 12], M23, by omega, by omega, smTo_succ hg hm hSm, by omega, by omega⟩
 refine zex 0 <| zbh <| zsr <| zpn 4 ?_
 obtain ⟨B26, hB26⟩ : ∃ B : Bool, B = decide ((((ms.length : Nat) : Int) : Int) > 8) := ⟨_, rfl⟩
 refine zkp [(1, (.slice gA bg.length gc)), (2, (.int .i64 mem)), (3, (.slice iA inp.length ic)), (4, (.int .i64 fuel)), (11, (.int .i64 nj)), (46, (.bool (decide ((((ms.length : Nat) : Int) : Int) > 8))))] ?_
 rw [← hB26]
 have iB26 : B26 = true ↔ ((((ms.length : Nat) : Int) : Int) > 8) := by rw [hB26]; simp only [decide_eq_true_eq]
 clear hB26
 intro aC fr
 refine zpk 4 8 [49, 50] fr (news := [(49, (.bool (B26 || decide ((nj : Int) > 300)))), (50, (.bool (B26 || decide ((nj : Int) > 300))))]) (by cases B26 <;> kernel_rfl) ?_
 intro aC fr
 obtain ⟨B31, hB31⟩ : ∃ B : Bool, B = (B26 || decide ((nj : Int) > 300)) := ⟨_, rfl⟩
 revert aC
 refine zkp [(1, (.slice gA bg.length gc)), (2, (.int .i64 mem)), (3, (.slice iA inp.length ic)), (4, (.int .i64 fuel)), (50, (.bool (B26 || decide ((nj : Int) > 300))))] ?_
 rw [← hB31]
 have iB31 : B31 = true ↔ (((((ms.length : Nat) : Int) : Int) > 8) ∨ ((nj : Int) > 300)) := by rw [hB31]; simp only [Bool.or_eq_true, decide_eq_true_eq, iB26]
 clear hB31
 intro aC fr
 refine zpk 5 13 [54, 55] fr (news := [(54, (.bool (B31 || decide ((((bg.length : Nat) : Int) : Int) > 50)))), (55, (.bool (B31 || decide ((((bg.length : Nat) : Int) : Int) > 50))))]) (by cases B31 <;> kernel_rfl) ?_
 intro aC fr
 obtain ⟨B36, hB36⟩ : ∃ B : Bool, B = (B31 || decide ((((bg.length : Nat) : Int) : Int) > 50)) := ⟨_, rfl⟩
 revert aC
 refine zkp [(2, (.int .i64 mem)), (3, (.slice iA inp.length ic)), (4, (.int .i64 fuel)), (55, (.bool (B31 || decide ((((bg.length : Nat) : Int) : Int) > 50))))] ?_
 rw [← hB36]
 have iB36 : B36 = true ↔ ((((((ms.length : Nat) : Int) : Int) > 8) ∨ ((nj : Int) > 300)) ∨ ((((bg.length : Nat) : Int) : Int) > 50)) := by rw [hB36]; simp only [Bool.or_eq_true, decide_eq_true_eq, iB31]
 clear hB36
 intro aC fr
 refine zpk 4 17 [58, 59] fr (news := [(58, (.bool (B36 || decide ((mem : Int) > 20000)))), (59, (.bool (B36 || decide ((mem : Int) > 20000))))]) (by cases B36 <;> kernel_rfl) ?_
 intro aC fr
 obtain ⟨B41, hB41⟩ : ∃ B : Bool, B = (B36 || decide ((mem : Int) > 20000)) := ⟨_, rfl⟩
 revert aC
 refine zkp [(3, (.slice iA inp.length ic)), (4, (.int .i64 fuel)), (59, (.bool (B36 || decide ((mem : Int) > 20000))))] ?_
 rw [← hB41]
 have iB41 : B41 = true ↔ (((((((ms.length : Nat) : Int) : Int) > 8) ∨ ((nj : Int) > 300)) ∨ ((((bg.length : Nat) : Int) : Int) > 50)) ∨ ((mem : Int) > 20000)) := by rw [hB41]; simp only [Bool.or_eq_true, decide_eq_true_eq, iB36]
 clear hB41
 intro aC fr
 refine zpk 5 22 [63, 64] fr (news := [(63, (.bool (B41 || decide ((((inp.length : Nat) : Int) : Int) > 5000)))), (64, (.bool (B41 || decide ((((inp.length : Nat) : Int) : Int) > 5000))))]) (by cases B41 <;> kernel_rfl) ?_
 intro aC fr
 obtain ⟨B46, hB46⟩ : ∃ B : Bool, B = (B41 || decide ((((inp.length : Nat) : Int) : Int) > 5000)) := ⟨_, rfl⟩
 revert aC
 refine zkp [(4, (.int .i64 fuel)), (64, (.bool (B41 || decide ((((inp.length : Nat) : Int) : Int) > 5000))))] ?_
 rw [← hB46]
 have iB46 : B46 = true ↔ ((((((((ms.length : Nat) : Int) : Int) > 8) ∨ ((nj : Int) > 300)) ∨ ((((bg.length : Nat) : Int) : Int) > 50)) ∨ ((mem : Int) > 20000)) ∨ ((((inp.length : Nat) : Int) : Int) > 5000)) := by rw [hB46]; simp only [Bool.or_eq_true, decide_eq_true_eq, iB41]
 clear hB46
 intro aC fr
 refine zpk 4 26 [10, 67] fr (news := [(10, (.bool (B46 || decide ((fuel : Int) > 5000)))), (67, (.bool (B46 || decide ((fuel : Int) > 5000))))]) (by cases B46 <;> kernel_rfl) ?_
 intro aC fr
 revert aC
 refine zfe <| zre <| zo1 (.bool (B46 || decide ((fuel : Int) > 5000))) ?_
 have hR : (B46 || decide ((fuel : Int) > 5000)) = true ↔ (((((((((ms.length : Nat) : Int) : Int) > 8) ∨ ((nj : Int) > 300)) ∨ ((((bg.length : Nat) : Int) : Int) > 50)) ∨ ((mem : Int) > 20000)) ∨ ((((inp.length : Nat) : Int) : Int) > 5000)) ∨ ((fuel : Int) > 5000)) := by simp only [Bool.or_eq_true, decide_eq_true_eq, iB46]
 refine ⟨_, rfl, fun h_ => ?_, M4⟩
 have hn_ : ¬ (((((((((ms.length : Nat) : Int) : Int) > 8) ∨ ((nj : Int) > 300)) ∨ ((((bg.length : Nat) : Int) : Int) > 50)) ∨ ((mem : Int) > 20000)) ∨ ((((inp.length : Nat) : Int) : Int) > 5000)) ∨ ((fuel : Int) > 5000)) := fun h2 => Bool.noConfusion (h_.symm.trans (hR.2 h2))
 obtain rfl : j = ms.length := by omega
 rw [List.take_length] at hc
 exact ⟨by omega, smTo_all hg, by omega, by omega, by omega, by omega, by omega⟩
end Go.Proofs.Ytdcgcjibgihbbaa
namespace Go.Proofs.Ytdcgcjibgihbbaa
open Go.Mor
theorem tname_c (s : ByteArray) (w : World) (hs : LenOk s.size) :
    Calls Try.prog 48 #[(.string s)] w (Ret fun v w' => v = .bool (decide (nameQ s)) ∧ Mem noS w w' []) := by
 unfold LenOk at hs
 refine zen 11 [(.string s)] Try.func48 ?_
 have hM := Mem.init w
 refine zsp <| zsr <| zpn 4 ?_
 obtain ⟨B1, hB1⟩ : ∃ B : Bool, B = decide ((((s).size : Int) : Int) ≥ 1) := ⟨_, rfl⟩
 refine zkp [(0, (.string s)), (6, (.bool (decide ((((s).size : Int) : Int) ≥ 1))))] ?_
 rw [← hB1]
 have iB1 : B1 = true ↔ ((((s).size : Int) : Int) ≥ 1) := by rw [hB1]; simp only [decide_eq_true_eq]
 clear hB1
 intro aC fr
 refine zpk 5 9 [2, 10] fr (news := [(2, (.bool (B1 && decide ((((s).size : Int) : Int) ≤ 60)))), (10, (.bool (B1 && decide ((((s).size : Int) : Int) ≤ 60))))]) (by cases B1 <;> kernel_rfl) ?_
 intro aC fr
 revert aC
 refine zfe <| zre <| zo1 (.bool (B1 && decide ((((s).size : Int) : Int) ≤ 60))) ?_
 have hR : (B1 && decide ((((s).size : Int) : Int) ≤ 60)) = true ↔ (((((s).size : Int) : Int) ≥ 1) ∧ ((((s).size : Int) : Int) ≤ 60)) := by simp only [Bool.and_eq_true, decide_eq_true_eq, iB1]
 exact ⟨bool_dec hR (by unfold nameQ; omega), hM⟩
theorem tplace_c (n : Int) (w : World) :
    Calls Try.prog 77 #[(.int .i64 n)] w (Ret fun v w' => v = .bool (decide (placeQ n)) ∧ Mem noS w w' []) := by
 refine zen 9 [(.int .i64 n)] Try.func77 ?_
 have hM := Mem.init w
 refine zsp <| zsr <| zpn 3 ?_
 obtain ⟨B1, hB1⟩ : ∃ B : Bool, B = decide ((n : Int) ≥ 0) := ⟨_, rfl⟩
 refine zkp [(0, (.int .i64 n)), (5, (.bool (decide ((n : Int) ≥ 0))))] ?_
 rw [← hB1]
 have iB1 : B1 = true ↔ ((n : Int) ≥ 0) := by rw [hB1]; simp only [decide_eq_true_eq]
 clear hB1
 intro aC fr
 refine zpk 4 7 [2, 8] fr (news := [(2, (.bool (B1 && decide ((n : Int) ≤ 2147483647)))), (8, (.bool (B1 && decide ((n : Int) ≤ 2147483647))))]) (by cases B1 <;> kernel_rfl) ?_
 intro aC fr
 revert aC
 refine zfe <| zre <| zo1 (.bool (B1 && decide ((n : Int) ≤ 2147483647))) ?_
 have hR : (B1 && decide ((n : Int) ≤ 2147483647)) = true ↔ (((n : Int) ≥ 0) ∧ ((n : Int) ≤ 2147483647)) := by simp only [Bool.and_eq_true, decide_eq_true_eq, iB1]
 exact ⟨bool_dec hR (by unfold placeQ; omega), hM⟩
theorem tcode_c (n : Int) (w : World) :
    Calls Try.prog 78 #[(.int .i64 n)] w (Ret fun v w' => v = .bool (decide (codeQ n)) ∧ Mem noS w w' []) := by
 refine zen 9 [(.int .i64 n)] Try.func78 ?_
 have hM := Mem.init w
 refine zsp <| zsr <| zpn 3 ?_
 obtain ⟨B1, hB1⟩ : ∃ B : Bool, B = decide ((n : Int) ≥ 1) := ⟨_, rfl⟩
 refine zkp [(0, (.int .i64 n)), (5, (.bool (decide ((n : Int) ≥ 1))))] ?_
 rw [← hB1]
 have iB1 : B1 = true ↔ ((n : Int) ≥ 1) := by rw [hB1]; simp only [decide_eq_true_eq]
 clear hB1
 intro aC fr
 refine zpk 4 7 [2, 8] fr (news := [(2, (.bool (B1 && decide ((n : Int) ≤ 999)))), (8, (.bool (B1 && decide ((n : Int) ≤ 999))))]) (by cases B1 <;> kernel_rfl) ?_
 intro aC fr
 revert aC
 refine zfe <| zre <| zo1 (.bool (B1 && decide ((n : Int) ≤ 999))) ?_
 have hR : (B1 && decide ((n : Int) ≤ 999)) = true ↔ (((n : Int) ≥ 1) ∧ ((n : Int) ≤ 999)) := by simp only [Bool.and_eq_true, decide_eq_true_eq, iB1]
 exact ⟨bool_dec hR (by unfold codeQ; omega), hM⟩
set_option maxHeartbeats 2000000 in
set_option maxHeartbeats 1000000 in
theorem tshape_c (w : World) (c0 : Nat) (lo lp : Int) (hC : RO noS w (chkB c0 lo lp)) (e : MEx) (hI : ExI0 e) :
    Calls Try.prog 79 #[(pT c0 0), (.agg #[(.int .i64 e.op), (.int .i64 e.n), (.string e.nm), (.slice e.A e.kids.length e.c)])] w (Ret fun v w' => v = .bool (decide (esQ lo e.op e.n e.nm.size e.kids.length)) ∧ Mem noS w w' []) := by
 have hkl := hI.kids
 unfold LenOk at hkl
 have hnl := hI.nm
 unfold LenOk at hnl
 refine zen 202 [(pT c0 0), (.agg #[(.int .i64 e.op), (.int .i64 e.n), (.string e.nm), (.slice e.A e.kids.length e.c)])] Try.func79 ?_
 have hM := Mem.init w
 refine zsr <| zbx hM 53 (.agg #[(.int .i64 e.op), (.int .i64 e.n), (.string e.nm), (.slice e.A e.kids.length e.c)]) [(.int .i64 e.op), (.int .i64 e.n), (.string e.nm), (.slice e.A e.kids.length e.c)] fun b1 w2 hb1 M3 => ?_
 replace M3 := M3.nf
 clear hM
 refine zpn 1 <| zfe <| zsr <| zpn 1 <| zld ⟨b1, 3, none⟩ (.slice e.A e.kids.length e.c) (blk_cell (M3.get 0 rfl) rfl) <| zpn 2 <| zfe <| zsq <| zsr <| zpn 1 ?_
 refine zld ⟨b1, 0, none⟩ (.int .i64 e.op) (blk_cell (M3.get 0 rfl) rfl) <| zfe <| zbk 0 <| zsp <| zcP ((e.op : Int) == 1) ((e.op : Int) = 1) (by simp only [beq_iff_eq]) (fun c4 => ?_) (fun c4 => ?_)
 refine zsr <| zpn 3 ?_
 obtain ⟨B5, hB5⟩ : ∃ B : Bool, B = ((((e.kids.length : Nat) : Int) : Int) == 0) := ⟨_, rfl⟩
 refine zkp [(3, (pT b1 0)), (19, (.bool ((((e.kids.length : Nat) : Int) : Int) == 0)))] ?_
 rw [← hB5]
 have iB5 : B5 = true ↔ ((((e.kids.length : Nat) : Int) : Int) = 0) := by rw [hB5]; simp only [beq_iff_eq]
 clear hB5
 intro aC fr
 refine zpk 1 4 [20] fr (news := [(20, (cond B5 (pT b1 2) undef))]) (by cases B5 <;> kernel_rfl) ?_
 intro aC fr
 refine From_either (B := B5) (d := (some 21)) (.string e.nm) fr (by cases B5 <;> kernel_rfl) (fun hB hh => ?_) ?_
 cases B5 <;> first | (exact absurd hB (by decide)) | skip
 have c5 : ((((e.kids.length : Nat) : Int) : Int) = 0) := iB5.1 rfl
 exact From_ld (some 21) ⟨b1, 2, none⟩ fr (by kernel_rfl) (.string e.nm) (blk_cell (M3.get 0 rfl) rfl) hh
 intro aC fr
 refine zpk 3 8 [4, 23] fr (news := [(4, (.bool (B5 && ((e.nm : ByteArray).toList == (⟨#[]⟩ : ByteArray).toList)))), (23, (.bool (B5 && ((e.nm : ByteArray).toList == (⟨#[]⟩ : ByteArray).toList))))]) (by cases B5 <;> kernel_rfl) ?_
 intro aC fr
 revert aC
 refine zfe <| zre <| zbr <| zo1 (.bool (B5 && ((e.nm : ByteArray).toList == (⟨#[]⟩ : ByteArray).toList))) ?_
 have hR : (B5 && ((e.nm : ByteArray).toList == (⟨#[]⟩ : ByteArray).toList)) = true ↔ (((((e.kids.length : Nat) : Int) : Int) = 0) ∧ ((e.nm).size = 0)) := by simp only [Bool.and_eq_true, seq_nil, iB5]
 have M14 := M3.od [] 0
 exact ⟨bool_dec hR (by (try simp only [decide_eq_true_eq, decide_eq_false_iff_not] at *); (try unfold nameQ at *); (try unfold placeQ at *); (try unfold codeQ at *); rw [esQ_1 (by omega)]; have hb_ := bin_ok e.n; have hu_ := un_ok e.n; omega), M14⟩
 refine zsp <| zcP ((e.op : Int) == 2) ((e.op : Int) = 2) (by simp only [beq_iff_eq]) (fun c15 => ?_) (fun c15 => ?_)
 refine zsq ?_
 obtain ⟨B16, hB16⟩ : ∃ B : Bool, B = (((e.kids.length : Nat) : Int) == 0) := ⟨_, rfl⟩
 cases B16
 have c16 : ¬ (((e.kids.length : Nat) : Int) = 0) := zne hB16
 refine zkp [(0, (pT c0 0)), (3, (pT b1 0)), (5, (.int .i64 ((e.kids.length : Nat) : Int))), (14, (.int .i64 e.op))] ?_
 intro aC fr
 refine zdt 19 (N := 202) (env0 := [(0, (pT c0 0)), (3, (pT b1 0)), (5, (.int .i64 ((e.kids.length : Nat) : Int))), (14, (.int .i64 e.op))]) (specAt [.det (.int .i64 ((e.kids.length : Nat) : Int)), .det (.bool false), .det (.bool false), dU, dU, dU, .det (.bool false), .det (.bool false), dU, dU, dU, .det (.bool false), .det (.bool false), dU, dU, dU, dU, dU, dU]) fr (la (la (la (la (la (la (la (la (la (la (la (la (la (la (la (la (la (la (la lz dP) (dC (((e.kids.length : Nat) : Int) == 0) hB16)) dP) dK) dK) dK) dP) dP) dK) dK) dK) dP) dP) dK) dK) dK) dK) dK) dK) ?_
 intro aC w21 vs hK hv fr
 revert aC; refine zkp [(38, (.bool false))] ?_
 have M22 := M3.then_ hK
 clear hK hv fr aC M3; clear vs
 refine zpn 3 <| zfe <| zre <| zbr <| zo1 (.bool false) ?_
 have hR : false = true ↔ False := by simp
 have M23 := M22.od [] 0
 exact ⟨bool_dec hR (⟨False.elim, fun h_ => by (try simp only [decide_eq_true_eq, decide_eq_false_iff_not] at *); rw [esQ_2 (by omega)] at h_; omega⟩), M23⟩
 have c16 : ((e.kids.length : Nat) : Int) = 0 := beq_iff_eq.1 hB16.symm
 obtain ⟨B24, hB24⟩ : ∃ B : Bool, B = ((e.nm : ByteArray).toList == (⟨#[]⟩ : ByteArray).toList) := ⟨_, rfl⟩
 cases B24
 have c24 : ¬ (e.nm).size = 0 := fun e_ => Bool.noConfusion (((Iff.of_eq (seq_nil _)).2 e_).symm.trans (hB24.symm))
 refine zkp [(0, (pT c0 0)), (3, (pT b1 0)), (5, (.int .i64 ((e.kids.length : Nat) : Int))), (14, (.int .i64 e.op))] ?_
 intro aC fr
 refine zdt 19 (N := 202) (env0 := [(0, (pT c0 0)), (3, (pT b1 0)), (5, (.int .i64 ((e.kids.length : Nat) : Int))), (14, (.int .i64 e.op))]) (specAt [.det (.int .i64 ((e.kids.length : Nat) : Int)), .det (.bool true), .det (.bool true), .det (pT b1 2), .det (.string e.nm), .det (.bool false), .det (.bool false), .det (.bool false), dU, dU, dU, .det (.bool false), .det (.bool false), dU, dU, dU, dU, dU, dU]) fr (la (la (la (la (la (la (la (la (la (la (la (la (la (la (la (la (la (la (la lz dP) (dC (((e.kids.length : Nat) : Int) == 0) hB16)) dP) dP) (dL ⟨b1, 2, none⟩ (.string e.nm) fun w_ hK => (blk_cell ((M3.then_ hK).get 0 rfl) rfl))) (dPe hB24)) dP) dP) dK) dK) dK) dP) dP) dK) dK) dK) dK) dK) dK) ?_
 intro aC w29 vs hK hv fr
 revert aC; refine zkp [(38, (.bool false))] ?_
 have M30 := M3.then_ hK
 clear hK hv fr aC M3; clear vs
 refine zpn 3 <| zfe <| zre <| zbr <| zo1 (.bool false) ?_
 have hR : false = true ↔ False := by simp
 have M31 := M30.od [] 0
 exact ⟨bool_dec hR (⟨False.elim, fun h_ => by (try simp only [decide_eq_true_eq, decide_eq_false_iff_not] at *); rw [esQ_2 (by omega)] at h_; omega⟩), M31⟩
 have c24 : (e.nm).size = 0 := (Iff.of_eq (seq_nil _)).1 (hB24.symm)
 obtain ⟨B32, hB32⟩ : ∃ B : Bool, B = decide (e.n ≥ 0) := ⟨_, rfl⟩
 cases B32
 have c32 : ¬ (e.n ≥ 0) := of_decide_eq_false hB32.symm
 refine zkp [(0, (pT c0 0)), (3, (pT b1 0)), (5, (.int .i64 ((e.kids.length : Nat) : Int))), (14, (.int .i64 e.op))] ?_
 intro aC fr
 refine zdt 19 (N := 202) (env0 := [(0, (pT c0 0)), (3, (pT b1 0)), (5, (.int .i64 ((e.kids.length : Nat) : Int))), (14, (.int .i64 e.op))]) (specAt [.det (.int .i64 ((e.kids.length : Nat) : Int)), .det (.bool true), .det (.bool true), .det (pT b1 2), .det (.string e.nm), .det (.bool true), .det (.bool true), .det (.bool true), .det (pT b1 1), .det (.int .i64 e.n), .det (.bool false), .det (.bool false), .det (.bool false), dU, dU, dU, dU, dU, dU]) fr (la (la (la (la (la (la (la (la (la (la (la (la (la (la (la (la (la (la (la lz dP) (dC (((e.kids.length : Nat) : Int) == 0) hB16)) dP) dP) (dL ⟨b1, 2, none⟩ (.string e.nm) fun w_ hK => (blk_cell ((M3.then_ hK).get 0 rfl) rfl))) (dPe hB24)) dP) dP) dP) (dL ⟨b1, 1, none⟩ (.int .i64 e.n) fun w_ hK => (blk_cell ((M3.then_ hK).get 0 rfl) rfl))) (dC (decide (e.n ≥ 0)) hB32)) dP) dP) dK) dK) dK) dK) dK) dK) ?_
 intro aC w37 vs hK hv fr
 revert aC; refine zkp [(38, (.bool false))] ?_
 have M38 := M3.then_ hK
 clear hK hv fr aC M3; clear vs
 refine zpn 3 <| zfe <| zre <| zbr <| zo1 (.bool false) ?_
 have hR : false = true ↔ False := by simp
 have M39 := M38.od [] 0
 exact ⟨bool_dec hR (⟨False.elim, fun h_ => by (try simp only [decide_eq_true_eq, decide_eq_false_iff_not] at *); rw [esQ_2 (by omega)] at h_; omega⟩), M39⟩
 have c32 : e.n ≥ 0 := of_decide_eq_true hB32.symm
 refine zkp [(0, (pT c0 0)), (3, (pT b1 0)), (5, (.int .i64 ((e.kids.length : Nat) : Int))), (14, (.int .i64 e.op))] ?_
 intro aC fr
 refine zdt 19 (N := 202) (env0 := [(0, (pT c0 0)), (3, (pT b1 0)), (5, (.int .i64 ((e.kids.length : Nat) : Int))), (14, (.int .i64 e.op))]) (specAt [.det (.int .i64 ((e.kids.length : Nat) : Int)), .det (.bool true), .det (.bool true), .det (pT b1 2), .det (.string e.nm), .det (.bool true), .det (.bool true), .det (.bool true), .det (pT b1 1), .det (.int .i64 e.n), .det (.bool true), .det (.bool true), .det (.bool true), .det (pT b1 1), .det (.int .i64 e.n), .det (pT c0 0), .det (pT c0 0), .det (pT c0 0), .det (.int .i64 lo)]) fr (la (la (la (la (la (la (la (la (la (la (la (la (la (la (la (la (la (la (la lz dP) (dC (((e.kids.length : Nat) : Int) == 0) hB16)) dP) dP) (dL ⟨b1, 2, none⟩ (.string e.nm) fun w_ hK => (blk_cell ((M3.then_ hK).get 0 rfl) rfl))) (dPe hB24)) dP) dP) dP) (dL ⟨b1, 1, none⟩ (.int .i64 e.n) fun w_ hK => (blk_cell ((M3.then_ hK).get 0 rfl) rfl))) (dC (decide (e.n ≥ 0)) hB32)) dP) dP) dP) (dL ⟨b1, 1, none⟩ (.int .i64 e.n) fun w_ hK => (blk_cell ((M3.then_ hK).get 0 rfl) rfl))) dP) dP) dP) (dL ⟨c0, 0, none⟩ (.int .i64 lo) fun w_ hK => (blk_cell ((M3.then_ hK).ro hC) rfl))) ?_
 intro aC w44 vs hK hv fr
 revert aC; refine zkp [(38, (.bool true)), (40, (.int .i64 e.n)), (44, (.int .i64 lo))] ?_
 have M45 := M3.then_ hK
 clear hK hv fr aC M3; clear vs
 refine zpn 3 <| zfe <| zre <| zbr <| zo1 (.bool (decide ((e.n : Int) < lo))) ?_
 have hR : decide ((e.n : Int) < lo) = true ↔ ((e.n : Int) < lo) := by simp only [decide_eq_true_eq]
 have M46 := M45.od [] 0
 exact ⟨bool_dec hR (by (try simp only [decide_eq_true_eq, decide_eq_false_iff_not] at *); (try unfold nameQ at *); (try unfold placeQ at *); (try unfold codeQ at *); rw [esQ_2 (by omega)]; have hb_ := bin_ok e.n; have hu_ := un_ok e.n; omega), M46⟩
 refine zsp <| zcP ((e.op : Int) == 3) ((e.op : Int) = 3) (by simp only [beq_iff_eq]) (fun c47 => ?_) (fun c47 => ?_)
 refine zsr <| zpn 1 <| zld ⟨b1, 1, none⟩ (.int .i64 e.n) (blk_cell (M3.get 0 rfl) rfl) <| zkp [(3, (pT b1 0)), (5, (.int .i64 ((e.kids.length : Nat) : Int))), (51, (.int .i64 e.n))] <| zcl (bin_c e.n 1 1 w2) ?_
 rintro _ w48 ⟨rfl, M49x⟩
 have M49 := M3.cl M49x
 refine zpn 5 <| zfe <| zsr <| zpn 3 ?_
 obtain ⟨B50, hB50⟩ : ∃ B : Bool, B = ((((e.kids.length : Nat) : Int) : Int) == 2) := ⟨_, rfl⟩
 refine zkp [(3, (pT b1 0)), (7, (.int .i64 ((binS e.n 1 1).2))), (57, (.bool ((((e.kids.length : Nat) : Int) : Int) == 2)))] ?_
 rw [← hB50]
 have iB50 : B50 = true ↔ ((((e.kids.length : Nat) : Int) : Int) = 2) := by rw [hB50]; simp only [beq_iff_eq]
 clear hB50
 intro aC fr
 refine zpk 1 4 [58] fr (news := [(58, (cond B50 (pT b1 2) undef))]) (by cases B50 <;> kernel_rfl) ?_
 intro aC fr
 refine From_either (B := B50) (d := (some 59)) (.string e.nm) fr (by cases B50 <;> kernel_rfl) (fun hB hh => ?_) ?_
 cases B50 <;> first | (exact absurd hB (by decide)) | skip
 have c50 : ((((e.kids.length : Nat) : Int) : Int) = 2) := iB50.1 rfl
 exact From_ld (some 59) ⟨b1, 2, none⟩ fr (by kernel_rfl) (.string e.nm) (blk_cell (M49.get 0 rfl) rfl) hh
 intro aC fr
 refine zpk 3 8 [61, 62] fr (news := [(61, (.bool (B50 && ((e.nm : ByteArray).toList == (⟨#[]⟩ : ByteArray).toList)))), (62, (.bool (B50 && ((e.nm : ByteArray).toList == (⟨#[]⟩ : ByteArray).toList))))]) (by cases B50 <;> kernel_rfl) ?_
 intro aC fr
 obtain ⟨B59, hB59⟩ : ∃ B : Bool, B = (B50 && ((e.nm : ByteArray).toList == (⟨#[]⟩ : ByteArray).toList)) := ⟨_, rfl⟩
 revert aC
 refine zkp [(7, (.int .i64 ((binS e.n 1 1).2))), (62, (.bool (B50 && ((e.nm : ByteArray).toList == (⟨#[]⟩ : ByteArray).toList))))] ?_
 rw [← hB59]
 have iB59 : B59 = true ↔ (((((e.kids.length : Nat) : Int) : Int) = 2) ∧ ((e.nm).size = 0)) := by rw [hB59]; simp only [Bool.and_eq_true, seq_nil, iB50]
 clear hB59
 intro aC fr
 refine zpk 4 12 [4, 65] fr (news := [(4, (.bool (B59 && (((binS e.n 1 1).2 : Int) == 0)))), (65, (.bool (B59 && (((binS e.n 1 1).2 : Int) == 0))))]) (by cases B59 <;> kernel_rfl) ?_
 intro aC fr
 revert aC
 refine zfe <| zre <| zbr <| zo1 (.bool (B59 && (((binS e.n 1 1).2 : Int) == 0))) ?_
 have hR : (B59 && (((binS e.n 1 1).2 : Int) == 0)) = true ↔ ((((((e.kids.length : Nat) : Int) : Int) = 2) ∧ ((e.nm).size = 0)) ∧ (((binS e.n 1 1).2 : Int) = 0)) := by simp only [Bool.and_eq_true, beq_iff_eq, iB59]
 have M64 := M49.od [] 0
 exact ⟨bool_dec hR (by (try simp only [decide_eq_true_eq, decide_eq_false_iff_not] at *); (try unfold nameQ at *); (try unfold placeQ at *); (try unfold codeQ at *); rw [esQ_3 (by omega)]; have hb_ := bin_ok e.n; have hu_ := un_ok e.n; omega), M64⟩
 refine zsp <| zcP ((e.op : Int) == 4) ((e.op : Int) = 4) (by simp only [beq_iff_eq]) (fun c65 => ?_) (fun c65 => ?_)
 refine zsr <| zpn 1 <| zld ⟨b1, 1, none⟩ (.int .i64 e.n) (blk_cell (M3.get 0 rfl) rfl) <| zkp [(3, (pT b1 0)), (5, (.int .i64 ((e.kids.length : Nat) : Int))), (70, (.int .i64 e.n))] <| zcl (un_c e.n 1 w2) ?_
 rintro _ w66 ⟨rfl, M67x⟩
 have M67 := M3.cl M67x
 refine zpn 5 <| zfe <| zsr <| zpn 3 ?_
 obtain ⟨B68, hB68⟩ : ∃ B : Bool, B = ((((e.kids.length : Nat) : Int) : Int) == 1) := ⟨_, rfl⟩
 refine zkp [(3, (pT b1 0)), (9, (.int .i64 ((unS e.n 1).2))), (76, (.bool ((((e.kids.length : Nat) : Int) : Int) == 1)))] ?_
 rw [← hB68]
 have iB68 : B68 = true ↔ ((((e.kids.length : Nat) : Int) : Int) = 1) := by rw [hB68]; simp only [beq_iff_eq]
 clear hB68
 intro aC fr
 refine zpk 1 4 [77] fr (news := [(77, (cond B68 (pT b1 2) undef))]) (by cases B68 <;> kernel_rfl) ?_
 intro aC fr
 refine From_either (B := B68) (d := (some 78)) (.string e.nm) fr (by cases B68 <;> kernel_rfl) (fun hB hh => ?_) ?_
 cases B68 <;> first | (exact absurd hB (by decide)) | skip
 have c68 : ((((e.kids.length : Nat) : Int) : Int) = 1) := iB68.1 rfl
 exact From_ld (some 78) ⟨b1, 2, none⟩ fr (by kernel_rfl) (.string e.nm) (blk_cell (M67.get 0 rfl) rfl) hh
 intro aC fr
 refine zpk 3 8 [80, 81] fr (news := [(80, (.bool (B68 && ((e.nm : ByteArray).toList == (⟨#[]⟩ : ByteArray).toList)))), (81, (.bool (B68 && ((e.nm : ByteArray).toList == (⟨#[]⟩ : ByteArray).toList))))]) (by cases B68 <;> kernel_rfl) ?_
 intro aC fr
 obtain ⟨B77, hB77⟩ : ∃ B : Bool, B = (B68 && ((e.nm : ByteArray).toList == (⟨#[]⟩ : ByteArray).toList)) := ⟨_, rfl⟩
 revert aC
 refine zkp [(9, (.int .i64 ((unS e.n 1).2))), (81, (.bool (B68 && ((e.nm : ByteArray).toList == (⟨#[]⟩ : ByteArray).toList))))] ?_
 rw [← hB77]
 have iB77 : B77 = true ↔ (((((e.kids.length : Nat) : Int) : Int) = 1) ∧ ((e.nm).size = 0)) := by rw [hB77]; simp only [Bool.and_eq_true, seq_nil, iB68]
 clear hB77
 intro aC fr
 refine zpk 4 12 [4, 84] fr (news := [(4, (.bool (B77 && (((unS e.n 1).2 : Int) == 0)))), (84, (.bool (B77 && (((unS e.n 1).2 : Int) == 0))))]) (by cases B77 <;> kernel_rfl) ?_
 intro aC fr
 revert aC
 refine zfe <| zre <| zbr <| zo1 (.bool (B77 && (((unS e.n 1).2 : Int) == 0))) ?_
 have hR : (B77 && (((unS e.n 1).2 : Int) == 0)) = true ↔ ((((((e.kids.length : Nat) : Int) : Int) = 1) ∧ ((e.nm).size = 0)) ∧ (((unS e.n 1).2 : Int) = 0)) := by simp only [Bool.and_eq_true, beq_iff_eq, iB77]
 have M82 := M67.od [] 0
 exact ⟨bool_dec hR (by (try simp only [decide_eq_true_eq, decide_eq_false_iff_not] at *); (try unfold nameQ at *); (try unfold placeQ at *); (try unfold codeQ at *); rw [esQ_4 (by omega)]; have hb_ := bin_ok e.n; have hu_ := un_ok e.n; omega), M82⟩
 refine zsp <| zcP ((e.op : Int) == 5) ((e.op : Int) = 5) (by simp only [beq_iff_eq]) (fun c83 => ?_) (fun c83 => ?_)
 refine zsr <| zpn 3 ?_
 obtain ⟨B84, hB84⟩ : ∃ B : Bool, B = ((((e.kids.length : Nat) : Int) : Int) == 1) := ⟨_, rfl⟩
 refine zkp [(3, (pT b1 0)), (89, (.bool ((((e.kids.length : Nat) : Int) : Int) == 1)))] ?_
 rw [← hB84]
 have iB84 : B84 = true ↔ ((((e.kids.length : Nat) : Int) : Int) = 1) := by rw [hB84]; simp only [beq_iff_eq]
 clear hB84
 intro aC fr
 refine zpk 1 4 [90] fr (news := [(90, (cond B84 (pT b1 2) undef))]) (by cases B84 <;> kernel_rfl) ?_
 intro aC fr
 refine From_either (B := B84) (d := (some 91)) (.string e.nm) fr (by cases B84 <;> kernel_rfl) (fun hB hh => ?_) ?_
 cases B84 <;> first | (exact absurd hB (by decide)) | skip
 have c84 : ((((e.kids.length : Nat) : Int) : Int) = 1) := iB84.1 rfl
 exact From_ld (some 91) ⟨b1, 2, none⟩ fr (by kernel_rfl) (.string e.nm) (blk_cell (M3.get 0 rfl) rfl) hh
 intro aC fr
 refine zpk 3 8 [93, 94] fr (news := [(93, (.bool (B84 && ((e.nm : ByteArray).toList == (⟨#[]⟩ : ByteArray).toList)))), (94, (.bool (B84 && ((e.nm : ByteArray).toList == (⟨#[]⟩ : ByteArray).toList))))]) (by cases B84 <;> kernel_rfl) ?_
 intro aC fr
 obtain ⟨B93, hB93⟩ : ∃ B : Bool, B = (B84 && ((e.nm : ByteArray).toList == (⟨#[]⟩ : ByteArray).toList)) := ⟨_, rfl⟩
 revert aC
 refine zkp [(3, (pT b1 0)), (94, (.bool (B84 && ((e.nm : ByteArray).toList == (⟨#[]⟩ : ByteArray).toList))))] ?_
 rw [← hB93]
 have iB93 : B93 = true ↔ (((((e.kids.length : Nat) : Int) : Int) = 1) ∧ ((e.nm).size = 0)) := by rw [hB93]; simp only [Bool.and_eq_true, seq_nil, iB84]
 clear hB93
 intro aC fr
 refine zpk 1 9 [95] fr (news := [(95, (cond B93 (pT b1 1) undef))]) (by cases B93 <;> kernel_rfl) ?_
 intro aC fr
 refine From_either (B := B93) (d := (some 96)) (.int .i64 e.n) fr (by cases B93 <;> kernel_rfl) (fun hB hh => ?_) ?_
 cases B93 <;> first | (exact absurd hB (by decide)) | skip
 have c93 : (((((e.kids.length : Nat) : Int) : Int) = 1) ∧ ((e.nm).size = 0)) := iB93.1 rfl
 exact From_ld (some 96) ⟨b1, 1, none⟩ fr (by kernel_rfl) (.int .i64 e.n) (blk_cell (M3.get 0 rfl) rfl) hh
 intro aC fr
 refine From_eitherC (B := B93) (d := (some 97)) (.bool (decide (placeQ e.n))) fr (by cases B93 <;> kernel_rfl) (fun hB hh => ?_) ?_
 cases B93 <;> first | (exact absurd hB (by decide)) | skip
 have c93 : (((((e.kids.length : Nat) : Int) : Int) = 1) ∧ ((e.nm).size = 0)) := iB93.1 rfl
 refine From_cl (some 97) 77 [(.int .i64 e.n)] fr (by kernel_rfl) (tplace_c e.n w2) ?_
 rintro _ w2 ⟨rfl, hm2⟩ a2 hF2; exact hh a2 w2 hm2 hF2
 intro aC w100 M101x fr
 have M101 := M3.cl M101x
 refine zpk 2 13 [4, 98] fr (news := [(4, (.bool (B93 && decide (placeQ e.n)))), (98, (.bool (B93 && decide (placeQ e.n))))]) (by cases B93 <;> kernel_rfl) ?_
 intro aC fr
 revert aC
 refine zfe <| zre <| zbr <| zo1 (.bool (B93 && decide (placeQ e.n))) ?_
 have hR : (B93 && decide (placeQ e.n)) = true ↔ ((((((e.kids.length : Nat) : Int) : Int) = 1) ∧ ((e.nm).size = 0)) ∧ (placeQ e.n)) := by simp only [Bool.and_eq_true, decide_eq_true_eq, iB93]
 have M106 := M101.od [] 0
 exact ⟨bool_dec hR (by (try simp only [decide_eq_true_eq, decide_eq_false_iff_not] at *); (try unfold nameQ at *); (try unfold placeQ at *); (try unfold codeQ at *); rw [esQ_5 (by omega)]; have hb_ := bin_ok e.n; have hu_ := un_ok e.n; omega), M106⟩
 refine zsp <| zcP ((e.op : Int) == 6) ((e.op : Int) = 6) (by simp only [beq_iff_eq]) (fun c107 => ?_) (fun c107 => ?_)
 refine zsr <| zpn 3 ?_
 obtain ⟨B108, hB108⟩ : ∃ B : Bool, B = decide ((((e.kids.length : Nat) : Int) : Int) ≤ 16) := ⟨_, rfl⟩
 refine zkp [(3, (pT b1 0)), (103, (.bool (decide ((((e.kids.length : Nat) : Int) : Int) ≤ 16))))] ?_
 rw [← hB108]
 have iB108 : B108 = true ↔ ((((e.kids.length : Nat) : Int) : Int) ≤ 16) := by rw [hB108]; simp only [decide_eq_true_eq]
 clear hB108
 intro aC fr
 refine zpk 1 4 [104] fr (news := [(104, (cond B108 (pT b1 2) undef))]) (by cases B108 <;> kernel_rfl) ?_
 intro aC fr
 refine From_either (B := B108) (d := (some 105)) (.string e.nm) fr (by cases B108 <;> kernel_rfl) (fun hB hh => ?_) ?_
 cases B108 <;> first | (exact absurd hB (by decide)) | skip
 have c108 : ((((e.kids.length : Nat) : Int) : Int) ≤ 16) := iB108.1 rfl
 exact From_ld (some 105) ⟨b1, 2, none⟩ fr (by kernel_rfl) (.string e.nm) (blk_cell (M3.get 0 rfl) rfl) hh
 intro aC fr
 refine From_eitherC (B := B108) (d := (some 106)) (.bool (decide (nameQ e.nm))) fr (by cases B108 <;> kernel_rfl) (fun hB hh => ?_) ?_
 cases B108 <;> first | (exact absurd hB (by decide)) | skip
 have c108 : ((((e.kids.length : Nat) : Int) : Int) ≤ 16) := iB108.1 rfl
 refine From_cl (some 106) 48 [(.string e.nm)] fr (by kernel_rfl) (tname_c e.nm w2 hI.nm) ?_
 rintro _ w2 ⟨rfl, hm2⟩ a2 hF2; exact hh a2 w2 hm2 hF2
 intro aC w115 M116x fr
 have M116 := M3.cl M116x
 refine zpk 2 8 [107, 108] fr (news := [(107, (.bool (B108 && decide (nameQ e.nm)))), (108, (.bool (B108 && decide (nameQ e.nm))))]) (by cases B108 <;> kernel_rfl) ?_
 intro aC fr
 obtain ⟨B121, hB121⟩ : ∃ B : Bool, B = (B108 && decide (nameQ e.nm)) := ⟨_, rfl⟩
 revert aC
 refine zkp [(3, (pT b1 0)), (108, (.bool (B108 && decide (nameQ e.nm))))] ?_
 rw [← hB121]
 have iB121 : B121 = true ↔ (((((e.kids.length : Nat) : Int) : Int) ≤ 16) ∧ (nameQ e.nm)) := by rw [hB121]; simp only [Bool.and_eq_true, decide_eq_true_eq, iB108]
 clear hB121
 intro aC fr
 refine zpk 1 9 [109] fr (news := [(109, (cond B121 (pT b1 1) undef))]) (by cases B121 <;> kernel_rfl) ?_
 intro aC fr
 refine From_either (B := B121) (d := (some 110)) (.int .i64 e.n) fr (by cases B121 <;> kernel_rfl) (fun hB hh => ?_) ?_
 cases B121 <;> first | (exact absurd hB (by decide)) | skip
 have c121 : (((((e.kids.length : Nat) : Int) : Int) ≤ 16) ∧ (nameQ e.nm)) := iB121.1 rfl
 exact From_ld (some 110) ⟨b1, 1, none⟩ fr (by kernel_rfl) (.int .i64 e.n) (blk_cell (M116.get 0 rfl) rfl) hh
 intro aC fr
 refine zpk 3 13 [4, 112] fr (news := [(4, (.bool (B121 && ((e.n : Int) == 0)))), (112, (.bool (B121 && ((e.n : Int) == 0))))]) (by cases B121 <;> kernel_rfl) ?_
 intro aC fr
 revert aC
 refine zfe <| zre <| zbr <| zo1 (.bool (B121 && ((e.n : Int) == 0))) ?_
 have hR : (B121 && ((e.n : Int) == 0)) = true ↔ ((((((e.kids.length : Nat) : Int) : Int) ≤ 16) ∧ (nameQ e.nm)) ∧ ((e.n : Int) = 0)) := by simp only [Bool.and_eq_true, beq_iff_eq, iB121]
 have M130 := M116.od [] 0
 exact ⟨bool_dec hR (by (try simp only [decide_eq_true_eq, decide_eq_false_iff_not] at *); (try unfold nameQ at *); (try unfold placeQ at *); (try unfold codeQ at *); rw [esQ_6 (by omega)]; have hb_ := bin_ok e.n; have hu_ := un_ok e.n; omega), M130⟩
 refine zsp <| zcP ((e.op : Int) == 7) ((e.op : Int) = 7) (by simp only [beq_iff_eq]) (fun c131 => ?_) (fun c131 => ?_)
 refine zsr <| zpn 3 ?_
 obtain ⟨B132, hB132⟩ : ∃ B : Bool, B = decide ((((e.kids.length : Nat) : Int) : Int) ≥ 1) := ⟨_, rfl⟩
 refine zkp [(3, (pT b1 0)), (5, (.int .i64 ((e.kids.length : Nat) : Int))), (117, (.bool (decide ((((e.kids.length : Nat) : Int) : Int) ≥ 1))))] ?_
 rw [← hB132]
 have iB132 : B132 = true ↔ ((((e.kids.length : Nat) : Int) : Int) ≥ 1) := by rw [hB132]; simp only [decide_eq_true_eq]
 clear hB132
 intro aC fr
 refine zpk 4 7 [120, 121] fr (news := [(120, (.bool (B132 && decide ((((e.kids.length : Nat) : Int) : Int) ≤ 17)))), (121, (.bool (B132 && decide ((((e.kids.length : Nat) : Int) : Int) ≤ 17))))]) (by cases B132 <;> kernel_rfl) ?_
 intro aC fr
 obtain ⟨B137, hB137⟩ : ∃ B : Bool, B = (B132 && decide ((((e.kids.length : Nat) : Int) : Int) ≤ 17)) := ⟨_, rfl⟩
 revert aC
 refine zkp [(3, (pT b1 0)), (121, (.bool (B132 && decide ((((e.kids.length : Nat) : Int) : Int) ≤ 17))))] ?_
 rw [← hB137]
 have iB137 : B137 = true ↔ (((((e.kids.length : Nat) : Int) : Int) ≥ 1) ∧ ((((e.kids.length : Nat) : Int) : Int) ≤ 17)) := by rw [hB137]; simp only [Bool.and_eq_true, decide_eq_true_eq, iB132]
 clear hB137
 intro aC fr
 refine zpk 1 8 [122] fr (news := [(122, (cond B137 (pT b1 2) undef))]) (by cases B137 <;> kernel_rfl) ?_
 intro aC fr
 refine From_either (B := B137) (d := (some 123)) (.string e.nm) fr (by cases B137 <;> kernel_rfl) (fun hB hh => ?_) ?_
 cases B137 <;> first | (exact absurd hB (by decide)) | skip
 have c137 : (((((e.kids.length : Nat) : Int) : Int) ≥ 1) ∧ ((((e.kids.length : Nat) : Int) : Int) ≤ 17)) := iB137.1 rfl
 exact From_ld (some 123) ⟨b1, 2, none⟩ fr (by kernel_rfl) (.string e.nm) (blk_cell (M3.get 0 rfl) rfl) hh
 intro aC fr
 refine zpk 3 12 [125, 126] fr (news := [(125, (.bool (B137 && ((e.nm : ByteArray).toList == (⟨#[]⟩ : ByteArray).toList)))), (126, (.bool (B137 && ((e.nm : ByteArray).toList == (⟨#[]⟩ : ByteArray).toList))))]) (by cases B137 <;> kernel_rfl) ?_
 intro aC fr
 obtain ⟨B146, hB146⟩ : ∃ B : Bool, B = (B137 && ((e.nm : ByteArray).toList == (⟨#[]⟩ : ByteArray).toList)) := ⟨_, rfl⟩
 revert aC
 refine zkp [(3, (pT b1 0)), (126, (.bool (B137 && ((e.nm : ByteArray).toList == (⟨#[]⟩ : ByteArray).toList))))] ?_
 rw [← hB146]
 have iB146 : B146 = true ↔ ((((((e.kids.length : Nat) : Int) : Int) ≥ 1) ∧ ((((e.kids.length : Nat) : Int) : Int) ≤ 17)) ∧ ((e.nm).size = 0)) := by rw [hB146]; simp only [Bool.and_eq_true, seq_nil, iB137]
 clear hB146
 intro aC fr
 refine zpk 1 13 [127] fr (news := [(127, (cond B146 (pT b1 1) undef))]) (by cases B146 <;> kernel_rfl) ?_
 intro aC fr
 refine From_either (B := B146) (d := (some 128)) (.int .i64 e.n) fr (by cases B146 <;> kernel_rfl) (fun hB hh => ?_) ?_
 cases B146 <;> first | (exact absurd hB (by decide)) | skip
 have c146 : ((((((e.kids.length : Nat) : Int) : Int) ≥ 1) ∧ ((((e.kids.length : Nat) : Int) : Int) ≤ 17)) ∧ ((e.nm).size = 0)) := iB146.1 rfl
 exact From_ld (some 128) ⟨b1, 1, none⟩ fr (by kernel_rfl) (.int .i64 e.n) (blk_cell (M3.get 0 rfl) rfl) hh
 intro aC fr
 refine zpk 3 17 [4, 130] fr (news := [(4, (.bool (B146 && ((e.n : Int) == 0)))), (130, (.bool (B146 && ((e.n : Int) == 0))))]) (by cases B146 <;> kernel_rfl) ?_
 intro aC fr
 revert aC
 refine zfe <| zre <| zbr <| zo1 (.bool (B146 && ((e.n : Int) == 0))) ?_
 have hR : (B146 && ((e.n : Int) == 0)) = true ↔ (((((((e.kids.length : Nat) : Int) : Int) ≥ 1) ∧ ((((e.kids.length : Nat) : Int) : Int) ≤ 17)) ∧ ((e.nm).size = 0)) ∧ ((e.n : Int) = 0)) := by simp only [Bool.and_eq_true, beq_iff_eq, iB146]
 have M155 := M3.od [] 0
 exact ⟨bool_dec hR (by (try simp only [decide_eq_true_eq, decide_eq_false_iff_not] at *); (try unfold nameQ at *); (try unfold placeQ at *); (try unfold codeQ at *); rw [esQ_7 (by omega)]; have hb_ := bin_ok e.n; have hu_ := un_ok e.n; omega), M155⟩
 refine zsq <| zsp ?_
 obtain ⟨B156, hB156⟩ : ∃ B : Bool, B = ((e.op : Int) == 8) := ⟨_, rfl⟩
 refine zkp [(3, (pT b1 0)), (5, (.int .i64 ((e.kids.length : Nat) : Int))), (14, (.int .i64 e.op)), (131, (.bool ((e.op : Int) == 8)))] ?_
 rw [← hB156]
 have iB156 : B156 = true ↔ ((e.op : Int) = 8) := by rw [hB156]; simp only [beq_iff_eq]
 clear hB156
 cases B156
 have c156 : ¬ ((e.op : Int) = 8) := (fun h => Bool.noConfusion (iB156.2 h) : ¬ ((e.op : Int) = 8))
 refine zcF <| zrp <| zcP ((e.op : Int) == 9) ((e.op : Int) = 9) (by simp only [beq_iff_eq]) (fun c157 => ?_) (fun c157 => ?_)
 refine zsr <| zpn 3 ?_
 obtain ⟨B158, hB158⟩ : ∃ B : Bool, B = ((((e.kids.length : Nat) : Int) : Int) == 0) := ⟨_, rfl⟩
 refine zkp [(3, (pT b1 0)), (136, (.bool ((((e.kids.length : Nat) : Int) : Int) == 0)))] ?_
 rw [← hB158]
 have iB158 : B158 = true ↔ ((((e.kids.length : Nat) : Int) : Int) = 0) := by rw [hB158]; simp only [beq_iff_eq]
 clear hB158
 intro aC fr
 refine zpk 1 4 [137] fr (news := [(137, (cond B158 (pT b1 2) undef))]) (by cases B158 <;> kernel_rfl) ?_
 intro aC fr
 refine From_either (B := B158) (d := (some 138)) (.string e.nm) fr (by cases B158 <;> kernel_rfl) (fun hB hh => ?_) ?_
 cases B158 <;> first | (exact absurd hB (by decide)) | skip
 have c158 : ((((e.kids.length : Nat) : Int) : Int) = 0) := iB158.1 rfl
 exact From_ld (some 138) ⟨b1, 2, none⟩ fr (by kernel_rfl) (.string e.nm) (blk_cell (M3.get 0 rfl) rfl) hh
 intro aC fr
 refine From_eitherC (B := B158) (d := (some 139)) (.bool (decide (nameQ e.nm))) fr (by cases B158 <;> kernel_rfl) (fun hB hh => ?_) ?_
 cases B158 <;> first | (exact absurd hB (by decide)) | skip
 have c158 : ((((e.kids.length : Nat) : Int) : Int) = 0) := iB158.1 rfl
 refine From_cl (some 139) 48 [(.string e.nm)] fr (by kernel_rfl) (tname_c e.nm w2 hI.nm) ?_
 rintro _ w2 ⟨rfl, hm2⟩ a2 hF2; exact hh a2 w2 hm2 hF2
 intro aC w165 M166x fr
 have M166 := M3.cl M166x
 refine zpk 2 8 [140, 141] fr (news := [(140, (.bool (B158 && decide (nameQ e.nm)))), (141, (.bool (B158 && decide (nameQ e.nm))))]) (by cases B158 <;> kernel_rfl) ?_
 intro aC fr
 obtain ⟨B171, hB171⟩ : ∃ B : Bool, B = (B158 && decide (nameQ e.nm)) := ⟨_, rfl⟩
 revert aC
 refine zkp [(3, (pT b1 0)), (141, (.bool (B158 && decide (nameQ e.nm))))] ?_
 rw [← hB171]
 have iB171 : B171 = true ↔ (((((e.kids.length : Nat) : Int) : Int) = 0) ∧ (nameQ e.nm)) := by rw [hB171]; simp only [Bool.and_eq_true, decide_eq_true_eq, iB158]
 clear hB171
 intro aC fr
 refine zpk 1 9 [142] fr (news := [(142, (cond B171 (pT b1 1) undef))]) (by cases B171 <;> kernel_rfl) ?_
 intro aC fr
 refine From_either (B := B171) (d := (some 143)) (.int .i64 e.n) fr (by cases B171 <;> kernel_rfl) (fun hB hh => ?_) ?_
 cases B171 <;> first | (exact absurd hB (by decide)) | skip
 have c171 : (((((e.kids.length : Nat) : Int) : Int) = 0) ∧ (nameQ e.nm)) := iB171.1 rfl
 exact From_ld (some 143) ⟨b1, 1, none⟩ fr (by kernel_rfl) (.int .i64 e.n) (blk_cell (M166.get 0 rfl) rfl) hh
 intro aC fr
 refine zpk 3 13 [4, 145] fr (news := [(4, (.bool (B171 && ((e.n : Int) == 0)))), (145, (.bool (B171 && ((e.n : Int) == 0))))]) (by cases B171 <;> kernel_rfl) ?_
 intro aC fr
 revert aC
 refine zfe <| zre <| zbr <| zo1 (.bool (B171 && ((e.n : Int) == 0))) ?_
 have hR : (B171 && ((e.n : Int) == 0)) = true ↔ ((((((e.kids.length : Nat) : Int) : Int) = 0) ∧ (nameQ e.nm)) ∧ ((e.n : Int) = 0)) := by simp only [Bool.and_eq_true, beq_iff_eq, iB171]
 have M180 := M166.od [] 0
 exact ⟨bool_dec hR (by (try simp only [decide_eq_true_eq, decide_eq_false_iff_not] at *); (try unfold nameQ at *); (try unfold placeQ at *); (try unfold codeQ at *); rw [esQ_9 (by omega)]; have hb_ := bin_ok e.n; have hu_ := un_ok e.n; omega), M180⟩
 refine zsp <| zcP ((e.op : Int) == 10) ((e.op : Int) = 10) (by simp only [beq_iff_eq]) (fun c181 => ?_) (fun c181 => ?_)
 refine zsr <| zpn 3 ?_
 obtain ⟨B182, hB182⟩ : ∃ B : Bool, B = ((((e.kids.length : Nat) : Int) : Int) == 1) := ⟨_, rfl⟩
 refine zkp [(3, (pT b1 0)), (150, (.bool ((((e.kids.length : Nat) : Int) : Int) == 1)))] ?_
 rw [← hB182]
 have iB182 : B182 = true ↔ ((((e.kids.length : Nat) : Int) : Int) = 1) := by rw [hB182]; simp only [beq_iff_eq]
 clear hB182
 intro aC fr
 refine zpk 1 4 [151] fr (news := [(151, (cond B182 (pT b1 2) undef))]) (by cases B182 <;> kernel_rfl) ?_
 intro aC fr
 refine From_either (B := B182) (d := (some 152)) (.string e.nm) fr (by cases B182 <;> kernel_rfl) (fun hB hh => ?_) ?_
 cases B182 <;> first | (exact absurd hB (by decide)) | skip
 have c182 : ((((e.kids.length : Nat) : Int) : Int) = 1) := iB182.1 rfl
 exact From_ld (some 152) ⟨b1, 2, none⟩ fr (by kernel_rfl) (.string e.nm) (blk_cell (M3.get 0 rfl) rfl) hh
 intro aC fr
 refine zpk 3 8 [154, 155] fr (news := [(154, (.bool (B182 && ((e.nm : ByteArray).toList == (⟨#[]⟩ : ByteArray).toList)))), (155, (.bool (B182 && ((e.nm : ByteArray).toList == (⟨#[]⟩ : ByteArray).toList))))]) (by cases B182 <;> kernel_rfl) ?_
 intro aC fr
 obtain ⟨B191, hB191⟩ : ∃ B : Bool, B = (B182 && ((e.nm : ByteArray).toList == (⟨#[]⟩ : ByteArray).toList)) := ⟨_, rfl⟩
 revert aC
 refine zkp [(3, (pT b1 0)), (155, (.bool (B182 && ((e.nm : ByteArray).toList == (⟨#[]⟩ : ByteArray).toList))))] ?_
 rw [← hB191]
 have iB191 : B191 = true ↔ (((((e.kids.length : Nat) : Int) : Int) = 1) ∧ ((e.nm).size = 0)) := by rw [hB191]; simp only [Bool.and_eq_true, seq_nil, iB182]
 clear hB191
 intro aC fr
 refine zpk 1 9 [156] fr (news := [(156, (cond B191 (pT b1 1) undef))]) (by cases B191 <;> kernel_rfl) ?_
 intro aC fr
 refine From_either (B := B191) (d := (some 157)) (.int .i64 e.n) fr (by cases B191 <;> kernel_rfl) (fun hB hh => ?_) ?_
 cases B191 <;> first | (exact absurd hB (by decide)) | skip
 have c191 : (((((e.kids.length : Nat) : Int) : Int) = 1) ∧ ((e.nm).size = 0)) := iB191.1 rfl
 exact From_ld (some 157) ⟨b1, 1, none⟩ fr (by kernel_rfl) (.int .i64 e.n) (blk_cell (M3.get 0 rfl) rfl) hh
 intro aC fr
 refine zpk 3 13 [4, 159] fr (news := [(4, (.bool (B191 && ((e.n : Int) == 0)))), (159, (.bool (B191 && ((e.n : Int) == 0))))]) (by cases B191 <;> kernel_rfl) ?_
 intro aC fr
 revert aC
 refine zfe <| zre <| zbr <| zo1 (.bool (B191 && ((e.n : Int) == 0))) ?_
 have hR : (B191 && ((e.n : Int) == 0)) = true ↔ ((((((e.kids.length : Nat) : Int) : Int) = 1) ∧ ((e.nm).size = 0)) ∧ ((e.n : Int) = 0)) := by simp only [Bool.and_eq_true, beq_iff_eq, iB191]
 have M200 := M3.od [] 0
 exact ⟨bool_dec hR (by (try simp only [decide_eq_true_eq, decide_eq_false_iff_not] at *); (try unfold nameQ at *); (try unfold placeQ at *); (try unfold codeQ at *); rw [esQ_10 (by omega)]; have hb_ := bin_ok e.n; have hu_ := un_ok e.n; omega), M200⟩
 refine zsp <| zcP ((e.op : Int) == 11) ((e.op : Int) = 11) (by simp only [beq_iff_eq]) (fun c201 => ?_) (fun c201 => ?_)
 refine zsr <| zpn 3 ?_
 obtain ⟨B202, hB202⟩ : ∃ B : Bool, B = ((((e.kids.length : Nat) : Int) : Int) == 0) := ⟨_, rfl⟩
 refine zkp [(3, (pT b1 0)), (164, (.bool ((((e.kids.length : Nat) : Int) : Int) == 0)))] ?_
 rw [← hB202]
 have iB202 : B202 = true ↔ ((((e.kids.length : Nat) : Int) : Int) = 0) := by rw [hB202]; simp only [beq_iff_eq]
 clear hB202
 intro aC fr
 refine zpk 1 4 [165] fr (news := [(165, (cond B202 (pT b1 2) undef))]) (by cases B202 <;> kernel_rfl) ?_
 intro aC fr
 refine From_either (B := B202) (d := (some 166)) (.string e.nm) fr (by cases B202 <;> kernel_rfl) (fun hB hh => ?_) ?_
 cases B202 <;> first | (exact absurd hB (by decide)) | skip
 have c202 : ((((e.kids.length : Nat) : Int) : Int) = 0) := iB202.1 rfl
 exact From_ld (some 166) ⟨b1, 2, none⟩ fr (by kernel_rfl) (.string e.nm) (blk_cell (M3.get 0 rfl) rfl) hh
 intro aC fr
 refine zpk 3 8 [168, 169] fr (news := [(168, (.bool (B202 && ((e.nm : ByteArray).toList == (⟨#[]⟩ : ByteArray).toList)))), (169, (.bool (B202 && ((e.nm : ByteArray).toList == (⟨#[]⟩ : ByteArray).toList))))]) (by cases B202 <;> kernel_rfl) ?_
 intro aC fr
 obtain ⟨B211, hB211⟩ : ∃ B : Bool, B = (B202 && ((e.nm : ByteArray).toList == (⟨#[]⟩ : ByteArray).toList)) := ⟨_, rfl⟩
 revert aC
 refine zkp [(3, (pT b1 0)), (169, (.bool (B202 && ((e.nm : ByteArray).toList == (⟨#[]⟩ : ByteArray).toList))))] ?_
 rw [← hB211]
 have iB211 : B211 = true ↔ (((((e.kids.length : Nat) : Int) : Int) = 0) ∧ ((e.nm).size = 0)) := by rw [hB211]; simp only [Bool.and_eq_true, seq_nil, iB202]
 clear hB211
 intro aC fr
 refine zpk 1 9 [170] fr (news := [(170, (cond B211 (pT b1 1) undef))]) (by cases B211 <;> kernel_rfl) ?_
 intro aC fr
 refine From_either (B := B211) (d := (some 171)) (.int .i64 e.n) fr (by cases B211 <;> kernel_rfl) (fun hB hh => ?_) ?_
 cases B211 <;> first | (exact absurd hB (by decide)) | skip
 have c211 : (((((e.kids.length : Nat) : Int) : Int) = 0) ∧ ((e.nm).size = 0)) := iB211.1 rfl
 exact From_ld (some 171) ⟨b1, 1, none⟩ fr (by kernel_rfl) (.int .i64 e.n) (blk_cell (M3.get 0 rfl) rfl) hh
 intro aC fr
 refine zpk 3 13 [4, 173] fr (news := [(4, (.bool (B211 && ((e.n : Int) == 0)))), (173, (.bool (B211 && ((e.n : Int) == 0))))]) (by cases B211 <;> kernel_rfl) ?_
 intro aC fr
 revert aC
 refine zfe <| zre <| zbr <| zo1 (.bool (B211 && ((e.n : Int) == 0))) ?_
 have hR : (B211 && ((e.n : Int) == 0)) = true ↔ ((((((e.kids.length : Nat) : Int) : Int) = 0) ∧ ((e.nm).size = 0)) ∧ ((e.n : Int) = 0)) := by simp only [Bool.and_eq_true, beq_iff_eq, iB211]
 have M220 := M3.od [] 0
 exact ⟨bool_dec hR (by (try simp only [decide_eq_true_eq, decide_eq_false_iff_not] at *); (try unfold nameQ at *); (try unfold placeQ at *); (try unfold codeQ at *); rw [esQ_11 (by omega)]; have hb_ := bin_ok e.n; have hu_ := un_ok e.n; omega), M220⟩
 refine zsp <| zcP ((e.op : Int) == 12) ((e.op : Int) = 12) (by simp only [beq_iff_eq]) (fun c221 => ?_) (fun c221 => ?_)
 refine zsr <| zpn 3 ?_
 obtain ⟨B222, hB222⟩ : ∃ B : Bool, B = ((((e.kids.length : Nat) : Int) : Int) == 3) := ⟨_, rfl⟩
 refine zkp [(3, (pT b1 0)), (178, (.bool ((((e.kids.length : Nat) : Int) : Int) == 3)))] ?_
 rw [← hB222]
 have iB222 : B222 = true ↔ ((((e.kids.length : Nat) : Int) : Int) = 3) := by rw [hB222]; simp only [beq_iff_eq]
 clear hB222
 intro aC fr
 refine zpk 1 4 [179] fr (news := [(179, (cond B222 (pT b1 2) undef))]) (by cases B222 <;> kernel_rfl) ?_
 intro aC fr
 refine From_either (B := B222) (d := (some 180)) (.string e.nm) fr (by cases B222 <;> kernel_rfl) (fun hB hh => ?_) ?_
 cases B222 <;> first | (exact absurd hB (by decide)) | skip
 have c222 : ((((e.kids.length : Nat) : Int) : Int) = 3) := iB222.1 rfl
 exact From_ld (some 180) ⟨b1, 2, none⟩ fr (by kernel_rfl) (.string e.nm) (blk_cell (M3.get 0 rfl) rfl) hh
 intro aC fr
 refine zpk 3 8 [182, 183] fr (news := [(182, (.bool (B222 && ((e.nm : ByteArray).toList == (⟨#[]⟩ : ByteArray).toList)))), (183, (.bool (B222 && ((e.nm : ByteArray).toList == (⟨#[]⟩ : ByteArray).toList))))]) (by cases B222 <;> kernel_rfl) ?_
 intro aC fr
 obtain ⟨B231, hB231⟩ : ∃ B : Bool, B = (B222 && ((e.nm : ByteArray).toList == (⟨#[]⟩ : ByteArray).toList)) := ⟨_, rfl⟩
 revert aC
 refine zkp [(3, (pT b1 0)), (183, (.bool (B222 && ((e.nm : ByteArray).toList == (⟨#[]⟩ : ByteArray).toList))))] ?_
 rw [← hB231]
 have iB231 : B231 = true ↔ (((((e.kids.length : Nat) : Int) : Int) = 3) ∧ ((e.nm).size = 0)) := by rw [hB231]; simp only [Bool.and_eq_true, seq_nil, iB222]
 clear hB231
 intro aC fr
 refine zpk 1 9 [184] fr (news := [(184, (cond B231 (pT b1 1) undef))]) (by cases B231 <;> kernel_rfl) ?_
 intro aC fr
 refine From_either (B := B231) (d := (some 185)) (.int .i64 e.n) fr (by cases B231 <;> kernel_rfl) (fun hB hh => ?_) ?_
 cases B231 <;> first | (exact absurd hB (by decide)) | skip
 have c231 : (((((e.kids.length : Nat) : Int) : Int) = 3) ∧ ((e.nm).size = 0)) := iB231.1 rfl
 exact From_ld (some 185) ⟨b1, 1, none⟩ fr (by kernel_rfl) (.int .i64 e.n) (blk_cell (M3.get 0 rfl) rfl) hh
 intro aC fr
 refine zpk 3 13 [4, 187] fr (news := [(4, (.bool (B231 && ((e.n : Int) == 0)))), (187, (.bool (B231 && ((e.n : Int) == 0))))]) (by cases B231 <;> kernel_rfl) ?_
 intro aC fr
 revert aC
 refine zfe <| zre <| zbr <| zo1 (.bool (B231 && ((e.n : Int) == 0))) ?_
 have hR : (B231 && ((e.n : Int) == 0)) = true ↔ ((((((e.kids.length : Nat) : Int) : Int) = 3) ∧ ((e.nm).size = 0)) ∧ ((e.n : Int) = 0)) := by simp only [Bool.and_eq_true, beq_iff_eq, iB231]
 have M240 := M3.od [] 0
 exact ⟨bool_dec hR (by (try simp only [decide_eq_true_eq, decide_eq_false_iff_not] at *); (try unfold nameQ at *); (try unfold placeQ at *); (try unfold codeQ at *); rw [esQ_12 (by omega)]; have hb_ := bin_ok e.n; have hu_ := un_ok e.n; omega), M240⟩
 refine zsp <| zcP ((e.op : Int) == 13) ((e.op : Int) = 13) (by simp only [beq_iff_eq]) (fun c241 => ?_) (fun c241 => ?_)
 refine zsr <| zpn 3 ?_
 obtain ⟨B242, hB242⟩ : ∃ B : Bool, B = ((((e.kids.length : Nat) : Int) : Int) == 2) := ⟨_, rfl⟩
 refine zkp [(3, (pT b1 0)), (192, (.bool ((((e.kids.length : Nat) : Int) : Int) == 2)))] ?_
 rw [← hB242]
 have iB242 : B242 = true ↔ ((((e.kids.length : Nat) : Int) : Int) = 2) := by rw [hB242]; simp only [beq_iff_eq]
 clear hB242
 intro aC fr
 refine zpk 1 4 [193] fr (news := [(193, (cond B242 (pT b1 2) undef))]) (by cases B242 <;> kernel_rfl) ?_
 intro aC fr
 refine From_either (B := B242) (d := (some 194)) (.string e.nm) fr (by cases B242 <;> kernel_rfl) (fun hB hh => ?_) ?_
 cases B242 <;> first | (exact absurd hB (by decide)) | skip
 have c242 : ((((e.kids.length : Nat) : Int) : Int) = 2) := iB242.1 rfl
 exact From_ld (some 194) ⟨b1, 2, none⟩ fr (by kernel_rfl) (.string e.nm) (blk_cell (M3.get 0 rfl) rfl) hh
 intro aC fr
 refine zpk 3 8 [196, 197] fr (news := [(196, (.bool (B242 && ((e.nm : ByteArray).toList == (⟨#[]⟩ : ByteArray).toList)))), (197, (.bool (B242 && ((e.nm : ByteArray).toList == (⟨#[]⟩ : ByteArray).toList))))]) (by cases B242 <;> kernel_rfl) ?_
 intro aC fr
 obtain ⟨B251, hB251⟩ : ∃ B : Bool, B = (B242 && ((e.nm : ByteArray).toList == (⟨#[]⟩ : ByteArray).toList)) := ⟨_, rfl⟩
 revert aC
 refine zkp [(3, (pT b1 0)), (197, (.bool (B242 && ((e.nm : ByteArray).toList == (⟨#[]⟩ : ByteArray).toList))))] ?_
 rw [← hB251]
 have iB251 : B251 = true ↔ (((((e.kids.length : Nat) : Int) : Int) = 2) ∧ ((e.nm).size = 0)) := by rw [hB251]; simp only [Bool.and_eq_true, seq_nil, iB242]
 clear hB251
 intro aC fr
 refine zpk 1 9 [198] fr (news := [(198, (cond B251 (pT b1 1) undef))]) (by cases B251 <;> kernel_rfl) ?_
 intro aC fr
 refine From_either (B := B251) (d := (some 199)) (.int .i64 e.n) fr (by cases B251 <;> kernel_rfl) (fun hB hh => ?_) ?_
 cases B251 <;> first | (exact absurd hB (by decide)) | skip
 have c251 : (((((e.kids.length : Nat) : Int) : Int) = 2) ∧ ((e.nm).size = 0)) := iB251.1 rfl
 exact From_ld (some 199) ⟨b1, 1, none⟩ fr (by kernel_rfl) (.int .i64 e.n) (blk_cell (M3.get 0 rfl) rfl) hh
 intro aC fr
 refine From_eitherC (B := B251) (d := (some 200)) (.bool (decide (codeQ e.n))) fr (by cases B251 <;> kernel_rfl) (fun hB hh => ?_) ?_
 cases B251 <;> first | (exact absurd hB (by decide)) | skip
 have c251 : (((((e.kids.length : Nat) : Int) : Int) = 2) ∧ ((e.nm).size = 0)) := iB251.1 rfl
 refine From_cl (some 200) 78 [(.int .i64 e.n)] fr (by kernel_rfl) (tcode_c e.n w2) ?_
 rintro _ w2 ⟨rfl, hm2⟩ a2 hF2; exact hh a2 w2 hm2 hF2
 intro aC w258 M259x fr
 have M259 := M3.cl M259x
 refine zpk 2 13 [4, 201] fr (news := [(4, (.bool (B251 && decide (codeQ e.n)))), (201, (.bool (B251 && decide (codeQ e.n))))]) (by cases B251 <;> kernel_rfl) ?_
 intro aC fr
 revert aC
 refine zfe <| zre <| zbr <| zo1 (.bool (B251 && decide (codeQ e.n))) ?_
 have hR : (B251 && decide (codeQ e.n)) = true ↔ ((((((e.kids.length : Nat) : Int) : Int) = 2) ∧ ((e.nm).size = 0)) ∧ (codeQ e.n)) := by simp only [Bool.and_eq_true, decide_eq_true_eq, iB251]
 have M264 := M259.od [] 0
 exact ⟨bool_dec hR (by (try simp only [decide_eq_true_eq, decide_eq_false_iff_not] at *); (try unfold nameQ at *); (try unfold placeQ at *); (try unfold codeQ at *); rw [esQ_13 (by omega)]; have hb_ := bin_ok e.n; have hu_ := un_ok e.n; omega), M264⟩
 refine zsk <| zsp <| zre <| zo1 (.bool false) ?_
 have hR : false = true ↔ False := by simp
 have M265 := M3.od [] 0
 exact ⟨bool_dec hR (⟨False.elim, fun h_ => by have := esQ_rng h_; omega⟩), M265⟩
 have c156 : ((e.op : Int) = 8) := iB156.1 rfl
 refine zcT <| zsk <| zcT <| zsr <| zpn 3 ?_
 obtain ⟨B266, hB266⟩ : ∃ B : Bool, B = ((((e.kids.length : Nat) : Int) : Int) == 0) := ⟨_, rfl⟩
 refine zkp [(3, (pT b1 0)), (136, (.bool ((((e.kids.length : Nat) : Int) : Int) == 0)))] ?_
 rw [← hB266]
 have iB266 : B266 = true ↔ ((((e.kids.length : Nat) : Int) : Int) = 0) := by rw [hB266]; simp only [beq_iff_eq]
 clear hB266
 intro aC fr
 refine zpk 1 4 [137] fr (news := [(137, (cond B266 (pT b1 2) undef))]) (by cases B266 <;> kernel_rfl) ?_
 intro aC fr
 refine From_either (B := B266) (d := (some 138)) (.string e.nm) fr (by cases B266 <;> kernel_rfl) (fun hB hh => ?_) ?_
 cases B266 <;> first | (exact absurd hB (by decide)) | skip
 have c266 : ((((e.kids.length : Nat) : Int) : Int) = 0) := iB266.1 rfl
 exact From_ld (some 138) ⟨b1, 2, none⟩ fr (by kernel_rfl) (.string e.nm) (blk_cell (M3.get 0 rfl) rfl) hh
 intro aC fr
 refine From_eitherC (B := B266) (d := (some 139)) (.bool (decide (nameQ e.nm))) fr (by cases B266 <;> kernel_rfl) (fun hB hh => ?_) ?_
 cases B266 <;> first | (exact absurd hB (by decide)) | skip
 have c266 : ((((e.kids.length : Nat) : Int) : Int) = 0) := iB266.1 rfl
 refine From_cl (some 139) 48 [(.string e.nm)] fr (by kernel_rfl) (tname_c e.nm w2 hI.nm) ?_
 rintro _ w2 ⟨rfl, hm2⟩ a2 hF2; exact hh a2 w2 hm2 hF2
 intro aC w273 M274x fr
 have M274 := M3.cl M274x
 refine zpk 2 8 [140, 141] fr (news := [(140, (.bool (B266 && decide (nameQ e.nm)))), (141, (.bool (B266 && decide (nameQ e.nm))))]) (by cases B266 <;> kernel_rfl) ?_
 intro aC fr
 obtain ⟨B279, hB279⟩ : ∃ B : Bool, B = (B266 && decide (nameQ e.nm)) := ⟨_, rfl⟩
 revert aC
 refine zkp [(3, (pT b1 0)), (141, (.bool (B266 && decide (nameQ e.nm))))] ?_
 rw [← hB279]
 have iB279 : B279 = true ↔ (((((e.kids.length : Nat) : Int) : Int) = 0) ∧ (nameQ e.nm)) := by rw [hB279]; simp only [Bool.and_eq_true, decide_eq_true_eq, iB266]
 clear hB279
 intro aC fr
 refine zpk 1 9 [142] fr (news := [(142, (cond B279 (pT b1 1) undef))]) (by cases B279 <;> kernel_rfl) ?_
 intro aC fr
 refine From_either (B := B279) (d := (some 143)) (.int .i64 e.n) fr (by cases B279 <;> kernel_rfl) (fun hB hh => ?_) ?_
 cases B279 <;> first | (exact absurd hB (by decide)) | skip
 have c279 : (((((e.kids.length : Nat) : Int) : Int) = 0) ∧ (nameQ e.nm)) := iB279.1 rfl
 exact From_ld (some 143) ⟨b1, 1, none⟩ fr (by kernel_rfl) (.int .i64 e.n) (blk_cell (M274.get 0 rfl) rfl) hh
 intro aC fr
 refine zpk 3 13 [4, 145] fr (news := [(4, (.bool (B279 && ((e.n : Int) == 0)))), (145, (.bool (B279 && ((e.n : Int) == 0))))]) (by cases B279 <;> kernel_rfl) ?_
 intro aC fr
 revert aC
 refine zfe <| zre <| zbr <| zo1 (.bool (B279 && ((e.n : Int) == 0))) ?_
 have hR : (B279 && ((e.n : Int) == 0)) = true ↔ ((((((e.kids.length : Nat) : Int) : Int) = 0) ∧ (nameQ e.nm)) ∧ ((e.n : Int) = 0)) := by simp only [Bool.and_eq_true, beq_iff_eq, iB279]
 have M288 := M274.od [] 0
 exact ⟨bool_dec hR (by (try simp only [decide_eq_true_eq, decide_eq_false_iff_not] at *); (try unfold nameQ at *); (try unfold placeQ at *); (try unfold codeQ at *); rw [esQ_8 (by omega)]; have hb_ := bin_ok e.n; have hu_ := un_ok e.n; omega), M288⟩
theorem thas_ff (x : MSt) (q : Int) (w : World) :
    Calls Try.prog 76 #[(.agg #[(.int .i64 x.op), (.int .i64 x.n), (.slice x.eA x.exprs.length x.ec), (.slice x.bA x.body.length x.bc), (.slice x.lA x.els.length x.lc)]), (.int .i64 q), (.bool false), (.bool false)] w (Ret fun v w' => v = .bool (decide ((x.exprs.length : Int) = q ∧ x.body.length = 0 ∧ x.els.length = 0)) ∧ Mem noS w w' []) := by
 refine zen 32 [(.agg #[(.int .i64 x.op), (.int .i64 x.n), (.slice x.eA x.exprs.length x.ec), (.slice x.bA x.body.length x.bc), (.slice x.lA x.els.length x.lc)]), (.int .i64 q), (.bool false), (.bool false)] Try.func76 ?_
 have hM := Mem.init w
 refine zsr <| zbx hM 48 (.agg #[(.int .i64 x.op), (.int .i64 x.n), (.slice x.eA x.exprs.length x.ec), (.slice x.bA x.body.length x.bc), (.slice x.lA x.els.length x.lc)]) [(.int .i64 x.op), (.int .i64 x.n), (.slice x.eA x.exprs.length x.ec), (.slice x.bA x.body.length x.bc), (.slice x.lA x.els.length x.lc)] fun b1 w2 hb1 M3 => ?_
 replace M3 := M3.nf
 clear hM
 refine zpn 1 <| zfe <| zsr <| zpn 1 <| zld ⟨b1, 2, none⟩ (.slice x.eA x.exprs.length x.ec) (blk_cell (M3.get 0 rfl) rfl) <| zpn 4 ?_
 obtain ⟨B4, hB4⟩ : ∃ B : Bool, B = ((((x.exprs.length : Nat) : Int) : Int) == q) := ⟨_, rfl⟩
 refine zkp [(2, (.bool false)), (3, (.bool false)), (4, (pT b1 0)), (14, (.bool ((((x.exprs.length : Nat) : Int) : Int) == q)))] ?_
 rw [← hB4]
 have iB4 : B4 = true ↔ ((((x.exprs.length : Nat) : Int) : Int) = q) := by rw [hB4]; simp only [beq_iff_eq]
 clear hB4
 intro aC fr
 refine zpk 3 9 [16, 17] fr (news := [(16, (cond B4 (.bool false) undef)), (17, (cond B4 (pT b1 3) undef))]) (by cases B4 <;> kernel_rfl) ?_
 intro aC fr
 refine From_either (B := B4) (d := (some 18)) (.slice x.bA x.body.length x.bc) fr (by cases B4 <;> kernel_rfl) (fun hB hh => ?_) ?_
 cases B4 <;> first | (exact absurd hB (by decide)) | skip
 have c4 : ((((x.exprs.length : Nat) : Int) : Int) = q) := iB4.1 rfl
 exact From_ld (some 18) ⟨b1, 3, none⟩ fr (by kernel_rfl) (.slice x.bA x.body.length x.bc) (blk_cell (M3.get 0 rfl) rfl) hh
 intro aC fr
 refine zpk 5 15 [22, 23] fr (news := [(22, (.bool (B4 && ((((x.body.length : Nat) : Int) : Int) == 0)))), (23, (.bool (B4 && ((((x.body.length : Nat) : Int) : Int) == 0))))]) (by cases B4 <;> kernel_rfl) ?_
 intro aC fr
 obtain ⟨B13, hB13⟩ : ∃ B : Bool, B = (B4 && ((((x.body.length : Nat) : Int) : Int) == 0)) := ⟨_, rfl⟩
 revert aC
 refine zkp [(3, (.bool false)), (4, (pT b1 0)), (23, (.bool (B4 && ((((x.body.length : Nat) : Int) : Int) == 0))))] ?_
 rw [← hB13]
 have iB13 : B13 = true ↔ (((((x.exprs.length : Nat) : Int) : Int) = q) ∧ ((((x.body.length : Nat) : Int) : Int) = 0)) := by rw [hB13]; simp only [Bool.and_eq_true, beq_iff_eq, iB4]
 clear hB13
 intro aC fr
 refine zpk 3 18 [25, 26] fr (news := [(25, (cond B13 (.bool false) undef)), (26, (cond B13 (pT b1 4) undef))]) (by cases B13 <;> kernel_rfl) ?_
 intro aC fr
 refine From_either (B := B13) (d := (some 27)) (.slice x.lA x.els.length x.lc) fr (by cases B13 <;> kernel_rfl) (fun hB hh => ?_) ?_
 cases B13 <;> first | (exact absurd hB (by decide)) | skip
 have c13 : (((((x.exprs.length : Nat) : Int) : Int) = q) ∧ ((((x.body.length : Nat) : Int) : Int) = 0)) := iB13.1 rfl
 exact From_ld (some 27) ⟨b1, 4, none⟩ fr (by kernel_rfl) (.slice x.lA x.els.length x.lc) (blk_cell (M3.get 0 rfl) rfl) hh
 intro aC fr
 refine zpk 5 24 [8, 31] fr (news := [(8, (.bool (B13 && ((((x.els.length : Nat) : Int) : Int) == 0)))), (31, (.bool (B13 && ((((x.els.length : Nat) : Int) : Int) == 0))))]) (by cases B13 <;> kernel_rfl) ?_
 intro aC fr
 revert aC
 refine zfe <| zre <| zo1 (.bool (B13 && ((((x.els.length : Nat) : Int) : Int) == 0))) ?_
 have hR : (B13 && ((((x.els.length : Nat) : Int) : Int) == 0)) = true ↔ ((((((x.exprs.length : Nat) : Int) : Int) = q) ∧ ((((x.body.length : Nat) : Int) : Int) = 0)) ∧ ((((x.els.length : Nat) : Int) : Int) = 0)) := by simp only [Bool.and_eq_true, beq_iff_eq, iB13]
 have M22 := M3.od [] 0
 exact ⟨bool_dec hR (by omega), M22⟩
theorem thas_tt (x : MSt) (q : Int) (w : World) :
    Calls Try.prog 76 #[(.agg #[(.int .i64 x.op), (.int .i64 x.n), (.slice x.eA x.exprs.length x.ec), (.slice x.bA x.body.length x.bc), (.slice x.lA x.els.length x.lc)]), (.int .i64 q), (.bool true), (.bool true)] w (Ret fun v w' => v = .bool (decide ((x.exprs.length : Int) = q)) ∧ Mem noS w w' []) := by
 refine zen 32 [(.agg #[(.int .i64 x.op), (.int .i64 x.n), (.slice x.eA x.exprs.length x.ec), (.slice x.bA x.body.length x.bc), (.slice x.lA x.els.length x.lc)]), (.int .i64 q), (.bool true), (.bool true)] Try.func76 ?_
 have hM := Mem.init w
 refine zsr <| zbx hM 48 (.agg #[(.int .i64 x.op), (.int .i64 x.n), (.slice x.eA x.exprs.length x.ec), (.slice x.bA x.body.length x.bc), (.slice x.lA x.els.length x.lc)]) [(.int .i64 x.op), (.int .i64 x.n), (.slice x.eA x.exprs.length x.ec), (.slice x.bA x.body.length x.bc), (.slice x.lA x.els.length x.lc)] fun b1 w2 hb1 M3 => ?_
 replace M3 := M3.nf
 clear hM
 refine zpn 1 <| zfe <| zsr <| zpn 1 <| zld ⟨b1, 2, none⟩ (.slice x.eA x.exprs.length x.ec) (blk_cell (M3.get 0 rfl) rfl) <| zpn 4 ?_
 obtain ⟨B4, hB4⟩ : ∃ B : Bool, B = ((((x.exprs.length : Nat) : Int) : Int) == q) := ⟨_, rfl⟩
 refine zkp [(2, (.bool true)), (3, (.bool true)), (4, (pT b1 0)), (14, (.bool ((((x.exprs.length : Nat) : Int) : Int) == q)))] ?_
 rw [← hB4]
 have iB4 : B4 = true ↔ ((((x.exprs.length : Nat) : Int) : Int) = q) := by rw [hB4]; simp only [beq_iff_eq]
 clear hB4
 intro aC fr
 refine zpk 18 24 [8, 22, 23, 31] fr (news := [(8, (.bool B4)), (22, (.bool B4)), (23, (.bool B4)), (31, (.bool B4))]) (by cases B4 <;> kernel_rfl) ?_
 intro aC fr
 revert aC
 refine zfe <| zre <| zo1 (.bool B4) ?_
 have hR : B4 = true ↔ ((((x.exprs.length : Nat) : Int) : Int) = q) := by simp only [iB4]
 have M9 := M3.od [] 0
 exact ⟨bool_dec hR (by omega), M9⟩
theorem thas_tf (x : MSt) (q : Int) (w : World) :
    Calls Try.prog 76 #[(.agg #[(.int .i64 x.op), (.int .i64 x.n), (.slice x.eA x.exprs.length x.ec), (.slice x.bA x.body.length x.bc), (.slice x.lA x.els.length x.lc)]), (.int .i64 q), (.bool true), (.bool false)] w (Ret fun v w' => v = .bool (decide ((x.exprs.length : Int) = q ∧ x.els.length = 0)) ∧ Mem noS w w' []) := by
 refine zen 32 [(.agg #[(.int .i64 x.op), (.int .i64 x.n), (.slice x.eA x.exprs.length x.ec), (.slice x.bA x.body.length x.bc), (.slice x.lA x.els.length x.lc)]), (.int .i64 q), (.bool true), (.bool false)] Try.func76 ?_
 have hM := Mem.init w
 refine zsr <| zbx hM 48 (.agg #[(.int .i64 x.op), (.int .i64 x.n), (.slice x.eA x.exprs.length x.ec), (.slice x.bA x.body.length x.bc), (.slice x.lA x.els.length x.lc)]) [(.int .i64 x.op), (.int .i64 x.n), (.slice x.eA x.exprs.length x.ec), (.slice x.bA x.body.length x.bc), (.slice x.lA x.els.length x.lc)] fun b1 w2 hb1 M3 => ?_
 replace M3 := M3.nf
 clear hM
 refine zpn 1 <| zfe <| zsr <| zpn 1 <| zld ⟨b1, 2, none⟩ (.slice x.eA x.exprs.length x.ec) (blk_cell (M3.get 0 rfl) rfl) <| zpn 4 ?_
 obtain ⟨B4, hB4⟩ : ∃ B : Bool, B = ((((x.exprs.length : Nat) : Int) : Int) == q) := ⟨_, rfl⟩
 refine zkp [(2, (.bool true)), (3, (.bool false)), (4, (pT b1 0)), (14, (.bool ((((x.exprs.length : Nat) : Int) : Int) == q)))] ?_
 rw [← hB4]
 have iB4 : B4 = true ↔ ((((x.exprs.length : Nat) : Int) : Int) = q) := by rw [hB4]; simp only [beq_iff_eq]
 clear hB4
 intro aC fr
 refine zpk 12 18 [22, 23, 25, 26] fr (news := [(22, (.bool B4)), (23, (.bool B4)), (25, (cond B4 (.bool false) undef)), (26, (cond B4 (pT b1 4) undef))]) (by cases B4 <;> kernel_rfl) ?_
 intro aC fr
 refine From_either (B := B4) (d := (some 27)) (.slice x.lA x.els.length x.lc) fr (by cases B4 <;> kernel_rfl) (fun hB hh => ?_) ?_
 cases B4 <;> first | (exact absurd hB (by decide)) | skip
 have c4 : ((((x.exprs.length : Nat) : Int) : Int) = q) := iB4.1 rfl
 exact From_ld (some 27) ⟨b1, 4, none⟩ fr (by kernel_rfl) (.slice x.lA x.els.length x.lc) (blk_cell (M3.get 0 rfl) rfl) hh
 intro aC fr
 refine zpk 5 24 [8, 31] fr (news := [(8, (.bool (B4 && ((((x.els.length : Nat) : Int) : Int) == 0)))), (31, (.bool (B4 && ((((x.els.length : Nat) : Int) : Int) == 0))))]) (by cases B4 <;> kernel_rfl) ?_
 intro aC fr
 revert aC
 refine zfe <| zre <| zo1 (.bool (B4 && ((((x.els.length : Nat) : Int) : Int) == 0))) ?_
 have hR : (B4 && ((((x.els.length : Nat) : Int) : Int) == 0)) = true ↔ (((((x.exprs.length : Nat) : Int) : Int) = q) ∧ ((((x.els.length : Nat) : Int) : Int) = 0)) := by simp only [Bool.and_eq_true, beq_iff_eq, iB4]
 have M13 := M3.od [] 0
 exact ⟨bool_dec hR (by omega), M13⟩
set_option maxHeartbeats 1000000 in
theorem tform_c (w : World) (c0 : Nat) (lo lp : Int) (hC : RO noS w (chkB c0 lo lp)) (x : MSt) (hI : StI0 x) :
    Calls Try.prog 67 #[(pT c0 0), (.agg #[(.int .i64 x.op), (.int .i64 x.n), (.slice x.eA x.exprs.length x.ec), (.slice x.bA x.body.length x.bc), (.slice x.lA x.els.length x.lc)])] w (Ret fun v w' => v = .bool (decide (sfQ lo lp x.op x.n x.exprs.length x.body.length x.els.length)) ∧ Mem noS w w' []) := by
 have h1_ := hI.exprs
 have h2_ := hI.body
 have h3_ := hI.els
 unfold LenOk at h1_ h2_ h3_
 refine zen 103 [(pT c0 0), (.agg #[(.int .i64 x.op), (.int .i64 x.n), (.slice x.eA x.exprs.length x.ec), (.slice x.bA x.body.length x.bc), (.slice x.lA x.els.length x.lc)])] Try.func67 ?_
 have hM := Mem.init w
 refine zsr <| zbx hM 48 (.agg #[(.int .i64 x.op), (.int .i64 x.n), (.slice x.eA x.exprs.length x.ec), (.slice x.bA x.body.length x.bc), (.slice x.lA x.els.length x.lc)]) [(.int .i64 x.op), (.int .i64 x.n), (.slice x.eA x.exprs.length x.ec), (.slice x.bA x.body.length x.bc), (.slice x.lA x.els.length x.lc)] fun b1 w2 hb1 M3 => ?_
 replace M3 := M3.nf
 clear hM
 refine zpn 1 <| zfe <| zsq <| zsr <| zpn 1 <| zld ⟨b1, 0, none⟩ (.int .i64 x.op) (blk_cell (M3.get 0 rfl) rfl) <| zfe <| zbk 0 <| zsp <| zcP ((x.op : Int) == 1) ((x.op : Int) = 1) (by simp only [beq_iff_eq]) (fun c4 => ?_) (fun c4 => ?_)
 refine zsq ?_
 obtain ⟨B5, hB5⟩ : ∃ B : Bool, B = decide ((x.exprs.length : Int) = 1 ∧ x.body.length = 0 ∧ x.els.length = 0) := ⟨_, rfl⟩
 cases B5
 have c5 : (decide ((x.exprs.length : Int) = 1 ∧ x.body.length = 0 ∧ x.els.length = 0)) = false := hB5.symm
 refine zkp [(0, (pT c0 0)), (3, (pT b1 0)), (6, (.int .i64 x.op))] ?_
 intro aC fr
 refine zdt 14 (N := 103) (env0 := [(0, (pT c0 0)), (3, (pT b1 0)), (6, (.int .i64 x.op))]) (specAt [.det (.agg #[(.int .i64 x.op), (.int .i64 x.n), (.slice x.eA x.exprs.length x.ec), (.slice x.bA x.body.length x.bc), (.slice x.lA x.els.length x.lc)]), .det (.bool false), .det (.bool false), dU, dU, dU, .det (.bool false), .det (.bool false), dU, dU, dU, dU, dU, dU]) fr (la (la (la (la (la (la (la (la (la (la (la (la (la (la lz (dS ⟨b1, 0, none⟩ [(.int .i64 x.op), (.int .i64 x.n), (.slice x.eA x.exprs.length x.ec), (.slice x.bA x.body.length x.bc), (.slice x.lA x.els.length x.lc)] fun w_ hK => (blk_cells ((M3.then_ hK).get 0 rfl)))) (dD (fun w_ hK => thas_ff x 1 w_) (congrArg Value.bool hB5.symm))) dP) dK) dK) dK) dP) dP) dK) dK) dK) dK) dK) dK) ?_
 intro aC w10 vs hK hv fr
 revert aC; refine zkp [(16, (.bool false))] ?_
 have M11 := M3.then_ hK
 clear hK hv fr aC M3; clear vs
 refine zpn 3 <| zfe <| zre <| zbr <| zo1 (.bool false) ?_
 have hR : false = true ↔ False := by simp
 have M12 := M11.od [] 0
 exact ⟨bool_dec hR (⟨False.elim, fun h_ => by (try simp only [decide_eq_true_eq, decide_eq_false_iff_not] at *); rw [sfQ_1 (by omega)] at h_; omega⟩), M12⟩
 have c5 : (decide ((x.exprs.length : Int) = 1 ∧ x.body.length = 0 ∧ x.els.length = 0)) = true := hB5.symm
 obtain ⟨B13, hB13⟩ : ∃ B : Bool, B = decide (x.n ≥ 0) := ⟨_, rfl⟩
 cases B13
 have c13 : ¬ (x.n ≥ 0) := of_decide_eq_false hB13.symm
 refine zkp [(0, (pT c0 0)), (3, (pT b1 0)), (6, (.int .i64 x.op))] ?_
 intro aC fr
 refine zdt 14 (N := 103) (env0 := [(0, (pT c0 0)), (3, (pT b1 0)), (6, (.int .i64 x.op))]) (specAt [.det (.agg #[(.int .i64 x.op), (.int .i64 x.n), (.slice x.eA x.exprs.length x.ec), (.slice x.bA x.body.length x.bc), (.slice x.lA x.els.length x.lc)]), .det (.bool true), .det (.bool true), .det (pT b1 1), .det (.int .i64 x.n), .det (.bool false), .det (.bool false), .det (.bool false), dU, dU, dU, dU, dU, dU]) fr (la (la (la (la (la (la (la (la (la (la (la (la (la (la lz (dS ⟨b1, 0, none⟩ [(.int .i64 x.op), (.int .i64 x.n), (.slice x.eA x.exprs.length x.ec), (.slice x.bA x.body.length x.bc), (.slice x.lA x.els.length x.lc)] fun w_ hK => (blk_cells ((M3.then_ hK).get 0 rfl)))) (dD (fun w_ hK => thas_ff x 1 w_) (congrArg Value.bool hB5.symm))) dP) dP) (dL ⟨b1, 1, none⟩ (.int .i64 x.n) fun w_ hK => (blk_cell ((M3.then_ hK).get 0 rfl) rfl))) (dC (decide (x.n ≥ 0)) hB13)) dP) dP) dK) dK) dK) dK) dK) dK) ?_
 intro aC w18 vs hK hv fr
 revert aC; refine zkp [(16, (.bool false))] ?_
 have M19 := M3.then_ hK
 clear hK hv fr aC M3; clear vs
 refine zpn 3 <| zfe <| zre <| zbr <| zo1 (.bool false) ?_
 have hR : false = true ↔ False := by simp
 have M20 := M19.od [] 0
 exact ⟨bool_dec hR (⟨False.elim, fun h_ => by (try simp only [decide_eq_true_eq, decide_eq_false_iff_not] at *); rw [sfQ_1 (by omega)] at h_; omega⟩), M20⟩
 have c13 : x.n ≥ 0 := of_decide_eq_true hB13.symm
 refine zkp [(0, (pT c0 0)), (3, (pT b1 0)), (6, (.int .i64 x.op))] ?_
 intro aC fr
 refine zdt 14 (N := 103) (env0 := [(0, (pT c0 0)), (3, (pT b1 0)), (6, (.int .i64 x.op))]) (specAt [.det (.agg #[(.int .i64 x.op), (.int .i64 x.n), (.slice x.eA x.exprs.length x.ec), (.slice x.bA x.body.length x.bc), (.slice x.lA x.els.length x.lc)]), .det (.bool true), .det (.bool true), .det (pT b1 1), .det (.int .i64 x.n), .det (.bool true), .det (.bool true), .det (.bool true), .det (pT b1 1), .det (.int .i64 x.n), .det (pT c0 0), .det (pT c0 0), .det (pT c0 0), .det (.int .i64 lo)]) fr (la (la (la (la (la (la (la (la (la (la (la (la (la (la lz (dS ⟨b1, 0, none⟩ [(.int .i64 x.op), (.int .i64 x.n), (.slice x.eA x.exprs.length x.ec), (.slice x.bA x.body.length x.bc), (.slice x.lA x.els.length x.lc)] fun w_ hK => (blk_cells ((M3.then_ hK).get 0 rfl)))) (dD (fun w_ hK => thas_ff x 1 w_) (congrArg Value.bool hB5.symm))) dP) dP) (dL ⟨b1, 1, none⟩ (.int .i64 x.n) fun w_ hK => (blk_cell ((M3.then_ hK).get 0 rfl) rfl))) (dC (decide (x.n ≥ 0)) hB13)) dP) dP) dP) (dL ⟨b1, 1, none⟩ (.int .i64 x.n) fun w_ hK => (blk_cell ((M3.then_ hK).get 0 rfl) rfl))) dP) dP) dP) (dL ⟨c0, 0, none⟩ (.int .i64 lo) fun w_ hK => (blk_cell ((M3.then_ hK).ro hC) rfl))) ?_
 intro aC w25 vs hK hv fr
 revert aC; refine zkp [(16, (.bool true)), (18, (.int .i64 x.n)), (22, (.int .i64 lo))] ?_
 have M26 := M3.then_ hK
 clear hK hv fr aC M3; clear vs
 refine zpn 3 <| zfe <| zre <| zbr <| zo1 (.bool (decide ((x.n : Int) < lo))) ?_
 have hR : decide ((x.n : Int) < lo) = true ↔ ((x.n : Int) < lo) := by simp only [decide_eq_true_eq]
 have M27 := M26.od [] 0
 exact ⟨bool_dec hR (by (try simp only [decide_eq_true_eq, decide_eq_false_iff_not] at *); (try unfold placeQ at *); (try unfold codeQ at *); rw [sfQ_1 (by omega)]; omega), M27⟩
 refine zsp <| zcP ((x.op : Int) == 2) ((x.op : Int) = 2) (by simp only [beq_iff_eq]) (fun c28 => ?_) (fun c28 => ?_)
 refine zsr <| zls ⟨b1, 0, none⟩ [(.int .i64 x.op), (.int .i64 x.n), (.slice x.eA x.exprs.length x.ec), (.slice x.bA x.body.length x.bc), (.slice x.lA x.els.length x.lc)] (blk_cells (M3.get 0 rfl)) <| zcl (thas_ff x 2 w2) ?_
 rintro _ w29 ⟨rfl, M30x⟩
 have M30 := M3.cl M30x
 refine zpn 1 ?_
 obtain ⟨B31, hB31⟩ : ∃ B : Bool, B = decide ((x.exprs.length : Int) = 2 ∧ x.body.length = 0 ∧ x.els.length = 0) := ⟨_, rfl⟩
 refine zkp [(3, (pT b1 0)), (29, (.bool (decide ((x.exprs.length : Int) = 2 ∧ x.body.length = 0 ∧ x.els.length = 0))))] ?_
 rw [← hB31]
 have iB31 : B31 = true ↔ ((x.exprs.length : Int) = 2 ∧ x.body.length = 0 ∧ x.els.length = 0) := by rw [hB31]; simp only [decide_eq_true_eq]
 clear hB31
 intro aC fr
 refine zpk 1 4 [30] fr (news := [(30, (cond B31 (pT b1 1) undef))]) (by cases B31 <;> kernel_rfl) ?_
 intro aC fr
 refine From_either (B := B31) (d := (some 31)) (.int .i64 x.n) fr (by cases B31 <;> kernel_rfl) (fun hB hh => ?_) ?_
 cases B31 <;> first | (exact absurd hB (by decide)) | skip
 have c31 : ((x.exprs.length : Int) = 2 ∧ x.body.length = 0 ∧ x.els.length = 0) := iB31.1 rfl
 exact From_ld (some 31) ⟨b1, 1, none⟩ fr (by kernel_rfl) (.int .i64 x.n) (blk_cell (M30.get 0 rfl) rfl) hh
 intro aC fr
 refine From_eitherC (B := B31) (d := (some 32)) (.bool (decide (placeQ x.n))) fr (by cases B31 <;> kernel_rfl) (fun hB hh => ?_) ?_
 cases B31 <;> first | (exact absurd hB (by decide)) | skip
 have c31 : ((x.exprs.length : Int) = 2 ∧ x.body.length = 0 ∧ x.els.length = 0) := iB31.1 rfl
 refine From_cl (some 32) 77 [(.int .i64 x.n)] fr (by kernel_rfl) (tplace_c x.n w29) ?_
 rintro _ w2 ⟨rfl, hm2⟩ a2 hF2; exact hh a2 w2 hm2 hF2
 intro aC w38 M39x fr
 have M39 := M30.cl M39x
 refine zpk 2 8 [4, 33] fr (news := [(4, (.bool (B31 && decide (placeQ x.n)))), (33, (.bool (B31 && decide (placeQ x.n))))]) (by cases B31 <;> kernel_rfl) ?_
 intro aC fr
 revert aC
 refine zfe <| zre <| zbr <| zo1 (.bool (B31 && decide (placeQ x.n))) ?_
 have hR : (B31 && decide (placeQ x.n)) = true ↔ (((x.exprs.length : Int) = 2 ∧ x.body.length = 0 ∧ x.els.length = 0) ∧ (placeQ x.n)) := by simp only [Bool.and_eq_true, decide_eq_true_eq, iB31]
 have M44 := M39.od [] 0
 exact ⟨bool_dec hR (by (try simp only [decide_eq_true_eq, decide_eq_false_iff_not] at *); (try unfold placeQ at *); (try unfold codeQ at *); rw [sfQ_2 (by omega)]; omega), M44⟩
 refine zsq <| zsp ?_
 obtain ⟨B45, hB45⟩ : ∃ B : Bool, B = ((x.op : Int) == 3) := ⟨_, rfl⟩
 refine zkp [(0, (pT c0 0)), (3, (pT b1 0)), (6, (.int .i64 x.op)), (34, (.bool ((x.op : Int) == 3)))] ?_
 rw [← hB45]
 have iB45 : B45 = true ↔ ((x.op : Int) = 3) := by rw [hB45]; simp only [beq_iff_eq]
 clear hB45
 cases B45
 have c45 : ¬ ((x.op : Int) = 3) := (fun h => Bool.noConfusion (iB45.2 h) : ¬ ((x.op : Int) = 3))
 refine zcF <| zrp <| zcP ((x.op : Int) == 4) ((x.op : Int) = 4) (by simp only [beq_iff_eq]) (fun c46 => ?_) (fun c46 => ?_)
 refine zsr <| zls ⟨b1, 0, none⟩ [(.int .i64 x.op), (.int .i64 x.n), (.slice x.eA x.exprs.length x.ec), (.slice x.bA x.body.length x.bc), (.slice x.lA x.els.length x.lc)] (blk_cells (M3.get 0 rfl)) <| zcl (thas_ff x 1 w2) ?_
 rintro _ w47 ⟨rfl, M48x⟩
 have M48 := M3.cl M48x
 refine zpn 1 ?_
 obtain ⟨B49, hB49⟩ : ∃ B : Bool, B = decide ((x.exprs.length : Int) = 1 ∧ x.body.length = 0 ∧ x.els.length = 0) := ⟨_, rfl⟩
 refine zkp [(3, (pT b1 0)), (39, (.bool (decide ((x.exprs.length : Int) = 1 ∧ x.body.length = 0 ∧ x.els.length = 0))))] ?_
 rw [← hB49]
 have iB49 : B49 = true ↔ ((x.exprs.length : Int) = 1 ∧ x.body.length = 0 ∧ x.els.length = 0) := by rw [hB49]; simp only [decide_eq_true_eq]
 clear hB49
 intro aC fr
 refine zpk 1 4 [40] fr (news := [(40, (cond B49 (pT b1 1) undef))]) (by cases B49 <;> kernel_rfl) ?_
 intro aC fr
 refine From_either (B := B49) (d := (some 41)) (.int .i64 x.n) fr (by cases B49 <;> kernel_rfl) (fun hB hh => ?_) ?_
 cases B49 <;> first | (exact absurd hB (by decide)) | skip
 have c49 : ((x.exprs.length : Int) = 1 ∧ x.body.length = 0 ∧ x.els.length = 0) := iB49.1 rfl
 exact From_ld (some 41) ⟨b1, 1, none⟩ fr (by kernel_rfl) (.int .i64 x.n) (blk_cell (M48.get 0 rfl) rfl) hh
 intro aC fr
 refine zpk 3 8 [4, 43] fr (news := [(4, (.bool (B49 && ((x.n : Int) == 0)))), (43, (.bool (B49 && ((x.n : Int) == 0))))]) (by cases B49 <;> kernel_rfl) ?_
 intro aC fr
 revert aC
 refine zfe <| zre <| zbr <| zo1 (.bool (B49 && ((x.n : Int) == 0))) ?_
 have hR : (B49 && ((x.n : Int) == 0)) = true ↔ (((x.exprs.length : Int) = 1 ∧ x.body.length = 0 ∧ x.els.length = 0) ∧ ((x.n : Int) = 0)) := by simp only [Bool.and_eq_true, beq_iff_eq, iB49]
 have M58 := M48.od [] 0
 exact ⟨bool_dec hR (by (try simp only [decide_eq_true_eq, decide_eq_false_iff_not] at *); (try unfold placeQ at *); (try unfold codeQ at *); rw [sfQ_4 (by omega)]; omega), M58⟩
 refine zsp <| zcP ((x.op : Int) == 5) ((x.op : Int) = 5) (by simp only [beq_iff_eq]) (fun c59 => ?_) (fun c59 => ?_)
 refine zsr <| zls ⟨b1, 0, none⟩ [(.int .i64 x.op), (.int .i64 x.n), (.slice x.eA x.exprs.length x.ec), (.slice x.bA x.body.length x.bc), (.slice x.lA x.els.length x.lc)] (blk_cells (M3.get 0 rfl)) <| zcl (thas_tt x 1 w2) ?_
 rintro _ w60 ⟨rfl, M61x⟩
 have M61 := M3.cl M61x
 refine zpn 1 ?_
 obtain ⟨B62, hB62⟩ : ∃ B : Bool, B = decide ((x.exprs.length : Int) = 1) := ⟨_, rfl⟩
 refine zkp [(3, (pT b1 0)), (48, (.bool (decide ((x.exprs.length : Int) = 1))))] ?_
 rw [← hB62]
 have iB62 : B62 = true ↔ ((x.exprs.length : Int) = 1) := by rw [hB62]; simp only [decide_eq_true_eq]
 clear hB62
 intro aC fr
 refine zpk 1 4 [49] fr (news := [(49, (cond B62 (pT b1 1) undef))]) (by cases B62 <;> kernel_rfl) ?_
 intro aC fr
 refine From_either (B := B62) (d := (some 50)) (.int .i64 x.n) fr (by cases B62 <;> kernel_rfl) (fun hB hh => ?_) ?_
 cases B62 <;> first | (exact absurd hB (by decide)) | skip
 have c62 : ((x.exprs.length : Int) = 1) := iB62.1 rfl
 exact From_ld (some 50) ⟨b1, 1, none⟩ fr (by kernel_rfl) (.int .i64 x.n) (blk_cell (M61.get 0 rfl) rfl) hh
 intro aC fr
 refine zpk 3 8 [4, 52] fr (news := [(4, (.bool (B62 && ((x.n : Int) == 0)))), (52, (.bool (B62 && ((x.n : Int) == 0))))]) (by cases B62 <;> kernel_rfl) ?_
 intro aC fr
 revert aC
 refine zfe <| zre <| zbr <| zo1 (.bool (B62 && ((x.n : Int) == 0))) ?_
 have hR : (B62 && ((x.n : Int) == 0)) = true ↔ (((x.exprs.length : Int) = 1) ∧ ((x.n : Int) = 0)) := by simp only [Bool.and_eq_true, beq_iff_eq, iB62]
 have M71 := M61.od [] 0
 exact ⟨bool_dec hR (by (try simp only [decide_eq_true_eq, decide_eq_false_iff_not] at *); (try unfold placeQ at *); (try unfold codeQ at *); rw [sfQ_5 (by omega)]; omega), M71⟩
 refine zsp <| zcP ((x.op : Int) == 6) ((x.op : Int) = 6) (by simp only [beq_iff_eq]) (fun c72 => ?_) (fun c72 => ?_)
 refine zsr <| zls ⟨b1, 0, none⟩ [(.int .i64 x.op), (.int .i64 x.n), (.slice x.eA x.exprs.length x.ec), (.slice x.bA x.body.length x.bc), (.slice x.lA x.els.length x.lc)] (blk_cells (M3.get 0 rfl)) <| zcl (thas_tf x 0 w2) ?_
 rintro _ w73 ⟨rfl, M74x⟩
 have M74 := M3.cl M74x
 refine zpn 1 ?_
 obtain ⟨B75, hB75⟩ : ∃ B : Bool, B = decide ((x.exprs.length : Int) = 0 ∧ x.els.length = 0) := ⟨_, rfl⟩
 refine zkp [(3, (pT b1 0)), (57, (.bool (decide ((x.exprs.length : Int) = 0 ∧ x.els.length = 0))))] ?_
 rw [← hB75]
 have iB75 : B75 = true ↔ ((x.exprs.length : Int) = 0 ∧ x.els.length = 0) := by rw [hB75]; simp only [decide_eq_true_eq]
 clear hB75
 intro aC fr
 refine zpk 1 4 [58] fr (news := [(58, (cond B75 (pT b1 1) undef))]) (by cases B75 <;> kernel_rfl) ?_
 intro aC fr
 refine From_either (B := B75) (d := (some 59)) (.int .i64 x.n) fr (by cases B75 <;> kernel_rfl) (fun hB hh => ?_) ?_
 cases B75 <;> first | (exact absurd hB (by decide)) | skip
 have c75 : ((x.exprs.length : Int) = 0 ∧ x.els.length = 0) := iB75.1 rfl
 exact From_ld (some 59) ⟨b1, 1, none⟩ fr (by kernel_rfl) (.int .i64 x.n) (blk_cell (M74.get 0 rfl) rfl) hh
 intro aC fr
 refine zpk 3 8 [4, 61] fr (news := [(4, (.bool (B75 && ((x.n : Int) == 0)))), (61, (.bool (B75 && ((x.n : Int) == 0))))]) (by cases B75 <;> kernel_rfl) ?_
 intro aC fr
 revert aC
 refine zfe <| zre <| zbr <| zo1 (.bool (B75 && ((x.n : Int) == 0))) ?_
 have hR : (B75 && ((x.n : Int) == 0)) = true ↔ (((x.exprs.length : Int) = 0 ∧ x.els.length = 0) ∧ ((x.n : Int) = 0)) := by simp only [Bool.and_eq_true, beq_iff_eq, iB75]
 have M84 := M74.od [] 0
 exact ⟨bool_dec hR (by (try simp only [decide_eq_true_eq, decide_eq_false_iff_not] at *); (try unfold placeQ at *); (try unfold codeQ at *); rw [sfQ_6 (by omega)]; omega), M84⟩
 refine zsq <| zsp ?_
 obtain ⟨B85, hB85⟩ : ∃ B : Bool, B = ((x.op : Int) == 7) := ⟨_, rfl⟩
 refine zkp [(0, (pT c0 0)), (3, (pT b1 0)), (6, (.int .i64 x.op)), (62, (.bool ((x.op : Int) == 7)))] ?_
 rw [← hB85]
 have iB85 : B85 = true ↔ ((x.op : Int) = 7) := by rw [hB85]; simp only [beq_iff_eq]
 clear hB85
 cases B85
 have c85 : ¬ ((x.op : Int) = 7) := (fun h => Bool.noConfusion (iB85.2 h) : ¬ ((x.op : Int) = 7))
 refine zcF <| zrp <| zcP ((x.op : Int) == 8) ((x.op : Int) = 8) (by simp only [beq_iff_eq]) (fun c86 => ?_) (fun c86 => ?_)
 refine zsq ?_
 obtain ⟨B87, hB87⟩ : ∃ B : Bool, B = decide ((x.exprs.length : Int) = 0 ∧ x.body.length = 0 ∧ x.els.length = 0) := ⟨_, rfl⟩
 cases B87
 have c87 : (decide ((x.exprs.length : Int) = 0 ∧ x.body.length = 0 ∧ x.els.length = 0)) = false := hB87.symm
 refine zkp [(0, (pT c0 0)), (3, (pT b1 0)), (6, (.int .i64 x.op))] ?_
 intro aC fr
 refine zdt 14 (N := 103) (env0 := [(0, (pT c0 0)), (3, (pT b1 0)), (6, (.int .i64 x.op))]) (specAt [.det (.agg #[(.int .i64 x.op), (.int .i64 x.n), (.slice x.eA x.exprs.length x.ec), (.slice x.bA x.body.length x.bc), (.slice x.lA x.els.length x.lc)]), .det (.bool false), .det (.bool false), dU, dU, dU, .det (.bool false), .det (.bool false), dU, dU, dU, dU, dU, dU]) fr (la (la (la (la (la (la (la (la (la (la (la (la (la (la lz (dS ⟨b1, 0, none⟩ [(.int .i64 x.op), (.int .i64 x.n), (.slice x.eA x.exprs.length x.ec), (.slice x.bA x.body.length x.bc), (.slice x.lA x.els.length x.lc)] fun w_ hK => (blk_cells ((M3.then_ hK).get 0 rfl)))) (dD (fun w_ hK => thas_ff x 0 w_) (congrArg Value.bool hB87.symm))) dP) dK) dK) dK) dP) dP) dK) dK) dK) dK) dK) dK) ?_
 intro aC w92 vs hK hv fr
 revert aC; refine zkp [(72, (.bool false))] ?_
 have M93 := M3.then_ hK
 clear hK hv fr aC M3; clear vs
 refine zpn 3 <| zfe <| zre <| zbr <| zo1 (.bool false) ?_
 have hR : false = true ↔ False := by simp
 have M94 := M93.od [] 0
 exact ⟨bool_dec hR (⟨False.elim, fun h_ => by (try simp only [decide_eq_true_eq, decide_eq_false_iff_not] at *); rw [sfQ_8 (by omega)] at h_; omega⟩), M94⟩
 have c87 : (decide ((x.exprs.length : Int) = 0 ∧ x.body.length = 0 ∧ x.els.length = 0)) = true := hB87.symm
 obtain ⟨B95, hB95⟩ : ∃ B : Bool, B = decide (x.n ≥ 0) := ⟨_, rfl⟩
 cases B95
 have c95 : ¬ (x.n ≥ 0) := of_decide_eq_false hB95.symm
 refine zkp [(0, (pT c0 0)), (3, (pT b1 0)), (6, (.int .i64 x.op))] ?_
 intro aC fr
 refine zdt 14 (N := 103) (env0 := [(0, (pT c0 0)), (3, (pT b1 0)), (6, (.int .i64 x.op))]) (specAt [.det (.agg #[(.int .i64 x.op), (.int .i64 x.n), (.slice x.eA x.exprs.length x.ec), (.slice x.bA x.body.length x.bc), (.slice x.lA x.els.length x.lc)]), .det (.bool true), .det (.bool true), .det (pT b1 1), .det (.int .i64 x.n), .det (.bool false), .det (.bool false), .det (.bool false), dU, dU, dU, dU, dU, dU]) fr (la (la (la (la (la (la (la (la (la (la (la (la (la (la lz (dS ⟨b1, 0, none⟩ [(.int .i64 x.op), (.int .i64 x.n), (.slice x.eA x.exprs.length x.ec), (.slice x.bA x.body.length x.bc), (.slice x.lA x.els.length x.lc)] fun w_ hK => (blk_cells ((M3.then_ hK).get 0 rfl)))) (dD (fun w_ hK => thas_ff x 0 w_) (congrArg Value.bool hB87.symm))) dP) dP) (dL ⟨b1, 1, none⟩ (.int .i64 x.n) fun w_ hK => (blk_cell ((M3.then_ hK).get 0 rfl) rfl))) (dC (decide (x.n ≥ 0)) hB95)) dP) dP) dK) dK) dK) dK) dK) dK) ?_
 intro aC w100 vs hK hv fr
 revert aC; refine zkp [(72, (.bool false))] ?_
 have M101 := M3.then_ hK
 clear hK hv fr aC M3; clear vs
 refine zpn 3 <| zfe <| zre <| zbr <| zo1 (.bool false) ?_
 have hR : false = true ↔ False := by simp
 have M102 := M101.od [] 0
 exact ⟨bool_dec hR (⟨False.elim, fun h_ => by (try simp only [decide_eq_true_eq, decide_eq_false_iff_not] at *); rw [sfQ_8 (by omega)] at h_; omega⟩), M102⟩
 have c95 : x.n ≥ 0 := of_decide_eq_true hB95.symm
 refine zkp [(0, (pT c0 0)), (3, (pT b1 0)), (6, (.int .i64 x.op))] ?_
 intro aC fr
 refine zdt 14 (N := 103) (env0 := [(0, (pT c0 0)), (3, (pT b1 0)), (6, (.int .i64 x.op))]) (specAt [.det (.agg #[(.int .i64 x.op), (.int .i64 x.n), (.slice x.eA x.exprs.length x.ec), (.slice x.bA x.body.length x.bc), (.slice x.lA x.els.length x.lc)]), .det (.bool true), .det (.bool true), .det (pT b1 1), .det (.int .i64 x.n), .det (.bool true), .det (.bool true), .det (.bool true), .det (pT b1 1), .det (.int .i64 x.n), .det (pT c0 0), .det (pT c0 0), .det (pT c0 1), .det (.int .i64 lp)]) fr (la (la (la (la (la (la (la (la (la (la (la (la (la (la lz (dS ⟨b1, 0, none⟩ [(.int .i64 x.op), (.int .i64 x.n), (.slice x.eA x.exprs.length x.ec), (.slice x.bA x.body.length x.bc), (.slice x.lA x.els.length x.lc)] fun w_ hK => (blk_cells ((M3.then_ hK).get 0 rfl)))) (dD (fun w_ hK => thas_ff x 0 w_) (congrArg Value.bool hB87.symm))) dP) dP) (dL ⟨b1, 1, none⟩ (.int .i64 x.n) fun w_ hK => (blk_cell ((M3.then_ hK).get 0 rfl) rfl))) (dC (decide (x.n ≥ 0)) hB95)) dP) dP) dP) (dL ⟨b1, 1, none⟩ (.int .i64 x.n) fun w_ hK => (blk_cell ((M3.then_ hK).get 0 rfl) rfl))) dP) dP) dP) (dL ⟨c0, 1, none⟩ (.int .i64 lp) fun w_ hK => (blk_cell ((M3.then_ hK).ro hC) rfl))) ?_
 intro aC w107 vs hK hv fr
 revert aC; refine zkp [(72, (.bool true)), (74, (.int .i64 x.n)), (78, (.int .i64 lp))] ?_
 have M108 := M3.then_ hK
 clear hK hv fr aC M3; clear vs
 refine zpn 3 <| zfe <| zre <| zbr <| zo1 (.bool (decide ((x.n : Int) < lp))) ?_
 have hR : decide ((x.n : Int) < lp) = true ↔ ((x.n : Int) < lp) := by simp only [decide_eq_true_eq]
 have M109 := M108.od [] 0
 exact ⟨bool_dec hR (by (try simp only [decide_eq_true_eq, decide_eq_false_iff_not] at *); (try unfold placeQ at *); (try unfold codeQ at *); rw [sfQ_8 (by omega)]; omega), M109⟩
 refine zsp <| zcP ((x.op : Int) == 9) ((x.op : Int) = 9) (by simp only [beq_iff_eq]) (fun c110 => ?_) (fun c110 => ?_)
 refine zsr <| zls ⟨b1, 0, none⟩ [(.int .i64 x.op), (.int .i64 x.n), (.slice x.eA x.exprs.length x.ec), (.slice x.bA x.body.length x.bc), (.slice x.lA x.els.length x.lc)] (blk_cells (M3.get 0 rfl)) <| zcl (thas_ff x 0 w2) ?_
 rintro _ w111 ⟨rfl, M112x⟩
 have M112 := M3.cl M112x
 refine zpn 1 ?_
 obtain ⟨B113, hB113⟩ : ∃ B : Bool, B = decide ((x.exprs.length : Int) = 0 ∧ x.body.length = 0 ∧ x.els.length = 0) := ⟨_, rfl⟩
 refine zkp [(3, (pT b1 0)), (85, (.bool (decide ((x.exprs.length : Int) = 0 ∧ x.body.length = 0 ∧ x.els.length = 0))))] ?_
 rw [← hB113]
 have iB113 : B113 = true ↔ ((x.exprs.length : Int) = 0 ∧ x.body.length = 0 ∧ x.els.length = 0) := by rw [hB113]; simp only [decide_eq_true_eq]
 clear hB113
 cases B113
 have c113 : ¬ ((x.exprs.length : Int) = 0 ∧ x.body.length = 0 ∧ x.els.length = 0) := (fun h => Bool.noConfusion (iB113.2 h) : ¬ ((x.exprs.length : Int) = 0 ∧ x.body.length = 0 ∧ x.els.length = 0))
 refine zls ⟨b1, 0, none⟩ [(.int .i64 x.op), (.int .i64 x.n), (.slice x.eA x.exprs.length x.ec), (.slice x.bA x.body.length x.bc), (.slice x.lA x.els.length x.lc)] (blk_cells (M112.get 0 rfl)) <| zcl (thas_ff x 1 w111) ?_
 rintro _ w114 ⟨rfl, M115x⟩
 have M115 := M112.cl M115x
 refine zpn 2 ?_
 obtain ⟨B116, hB116⟩ : ∃ B : Bool, B = decide ((x.exprs.length : Int) = 1 ∧ x.body.length = 0 ∧ x.els.length = 0) := ⟨_, rfl⟩
 refine zkp [(3, (pT b1 0)), (89, (.bool (decide ((x.exprs.length : Int) = 1 ∧ x.body.length = 0 ∧ x.els.length = 0))))] ?_
 rw [← hB116]
 have iB116 : B116 = true ↔ ((x.exprs.length : Int) = 1 ∧ x.body.length = 0 ∧ x.els.length = 0) := by rw [hB116]; simp only [decide_eq_true_eq]
 clear hB116
 intro aC fr
 refine zpk 1 8 [90] fr (news := [(90, (cond B116 (pT b1 1) undef))]) (by cases B116 <;> kernel_rfl) ?_
 intro aC fr
 refine From_either (B := B116) (d := (some 91)) (.int .i64 x.n) fr (by cases B116 <;> kernel_rfl) (fun hB hh => ?_) ?_
 cases B116 <;> first | (exact absurd hB (by decide)) | skip
 have c116 : ((x.exprs.length : Int) = 1 ∧ x.body.length = 0 ∧ x.els.length = 0) := iB116.1 rfl
 exact From_ld (some 91) ⟨b1, 1, none⟩ fr (by kernel_rfl) (.int .i64 x.n) (blk_cell (M115.get 0 rfl) rfl) hh
 intro aC fr
 refine zpk 3 12 [4, 93] fr (news := [(4, (.bool (B116 && ((x.n : Int) == 0)))), (93, (.bool (B116 && ((x.n : Int) == 0))))]) (by cases B116 <;> kernel_rfl) ?_
 intro aC fr
 revert aC
 refine zfe <| zre <| zbr <| zo1 (.bool (B116 && ((x.n : Int) == 0))) ?_
 have hR : (B116 && ((x.n : Int) == 0)) = true ↔ (((x.exprs.length : Int) = 1 ∧ x.body.length = 0 ∧ x.els.length = 0) ∧ ((x.n : Int) = 0)) := by simp only [Bool.and_eq_true, beq_iff_eq, iB116]
 have M125 := M115.od [] 0
 exact ⟨bool_dec hR (by (try simp only [decide_eq_true_eq, decide_eq_false_iff_not] at *); (try unfold placeQ at *); (try unfold codeQ at *); rw [sfQ_9 (by omega)]; omega), M125⟩
 have c113 : ((x.exprs.length : Int) = 0 ∧ x.body.length = 0 ∧ x.els.length = 0) := iB113.1 rfl
 refine zpn 5 <| zld ⟨b1, 1, none⟩ (.int .i64 x.n) (blk_cell (M112.get 0 rfl) rfl) <| zpn 3 <| zfe <| zre <| zbr <| zo1 (.bool ((x.n : Int) == 0)) ?_
 have hR : ((x.n : Int) == 0) = true ↔ ((x.n : Int) = 0) := by simp only [beq_iff_eq]
 have M126 := M112.od [] 0
 exact ⟨bool_dec hR (by (try simp only [decide_eq_true_eq, decide_eq_false_iff_not] at *); (try unfold placeQ at *); (try unfold codeQ at *); rw [sfQ_9 (by omega)]; omega), M126⟩
 refine zsp <| zcP ((x.op : Int) == 10) ((x.op : Int) = 10) (by simp only [beq_iff_eq]) (fun c127 => ?_) (fun c127 => ?_)
 refine zsr <| zls ⟨b1, 0, none⟩ [(.int .i64 x.op), (.int .i64 x.n), (.slice x.eA x.exprs.length x.ec), (.slice x.bA x.body.length x.bc), (.slice x.lA x.els.length x.lc)] (blk_cells (M3.get 0 rfl)) <| zcl (thas_ff x 0 w2) ?_
 rintro _ w128 ⟨rfl, M129x⟩
 have M129 := M3.cl M129x
 refine zpn 1 ?_
 obtain ⟨B130, hB130⟩ : ∃ B : Bool, B = decide ((x.exprs.length : Int) = 0 ∧ x.body.length = 0 ∧ x.els.length = 0) := ⟨_, rfl⟩
 refine zkp [(3, (pT b1 0)), (98, (.bool (decide ((x.exprs.length : Int) = 0 ∧ x.body.length = 0 ∧ x.els.length = 0))))] ?_
 rw [← hB130]
 have iB130 : B130 = true ↔ ((x.exprs.length : Int) = 0 ∧ x.body.length = 0 ∧ x.els.length = 0) := by rw [hB130]; simp only [decide_eq_true_eq]
 clear hB130
 intro aC fr
 refine zpk 1 4 [99] fr (news := [(99, (cond B130 (pT b1 1) undef))]) (by cases B130 <;> kernel_rfl) ?_
 intro aC fr
 refine From_either (B := B130) (d := (some 100)) (.int .i64 x.n) fr (by cases B130 <;> kernel_rfl) (fun hB hh => ?_) ?_
 cases B130 <;> first | (exact absurd hB (by decide)) | skip
 have c130 : ((x.exprs.length : Int) = 0 ∧ x.body.length = 0 ∧ x.els.length = 0) := iB130.1 rfl
 exact From_ld (some 100) ⟨b1, 1, none⟩ fr (by kernel_rfl) (.int .i64 x.n) (blk_cell (M129.get 0 rfl) rfl) hh
 intro aC fr
 refine From_eitherC (B := B130) (d := (some 101)) (.bool (decide (codeQ x.n))) fr (by cases B130 <;> kernel_rfl) (fun hB hh => ?_) ?_
 cases B130 <;> first | (exact absurd hB (by decide)) | skip
 have c130 : ((x.exprs.length : Int) = 0 ∧ x.body.length = 0 ∧ x.els.length = 0) := iB130.1 rfl
 refine From_cl (some 101) 78 [(.int .i64 x.n)] fr (by kernel_rfl) (tcode_c x.n w128) ?_
 rintro _ w2 ⟨rfl, hm2⟩ a2 hF2; exact hh a2 w2 hm2 hF2
 intro aC w137 M138x fr
 have M138 := M129.cl M138x
 refine zpk 2 8 [4, 102] fr (news := [(4, (.bool (B130 && decide (codeQ x.n)))), (102, (.bool (B130 && decide (codeQ x.n))))]) (by cases B130 <;> kernel_rfl) ?_
 intro aC fr
 revert aC
 refine zfe <| zre <| zbr <| zo1 (.bool (B130 && decide (codeQ x.n))) ?_
 have hR : (B130 && decide (codeQ x.n)) = true ↔ (((x.exprs.length : Int) = 0 ∧ x.body.length = 0 ∧ x.els.length = 0) ∧ (codeQ x.n)) := by simp only [Bool.and_eq_true, decide_eq_true_eq, iB130]
 have M143 := M138.od [] 0
 exact ⟨bool_dec hR (by (try simp only [decide_eq_true_eq, decide_eq_false_iff_not] at *); (try unfold placeQ at *); (try unfold codeQ at *); rw [sfQ_10 (by omega)]; omega), M143⟩
 refine zsk <| zsp <| zre <| zo1 (.bool false) ?_
 have hR : false = true ↔ False := by simp
 have M144 := M3.od [] 0
 exact ⟨bool_dec hR (⟨False.elim, fun h_ => by have := sfQ_rng h_; omega⟩), M144⟩
 have c85 : ((x.op : Int) = 7) := iB85.1 rfl
 refine zcT <| zsk <| zcT <| zsq ?_
 obtain ⟨B145, hB145⟩ : ∃ B : Bool, B = decide ((x.exprs.length : Int) = 0 ∧ x.body.length = 0 ∧ x.els.length = 0) := ⟨_, rfl⟩
 cases B145
 have c145 : (decide ((x.exprs.length : Int) = 0 ∧ x.body.length = 0 ∧ x.els.length = 0)) = false := hB145.symm
 refine zkp [(0, (pT c0 0)), (3, (pT b1 0)), (6, (.int .i64 x.op)), (62, (.bool true))] ?_
 intro aC fr
 refine zdt 14 (N := 103) (env0 := [(0, (pT c0 0)), (3, (pT b1 0)), (6, (.int .i64 x.op)), (62, (.bool true))]) (specAt [.det (.agg #[(.int .i64 x.op), (.int .i64 x.n), (.slice x.eA x.exprs.length x.ec), (.slice x.bA x.body.length x.bc), (.slice x.lA x.els.length x.lc)]), .det (.bool false), .det (.bool false), dU, dU, dU, .det (.bool false), .det (.bool false), dU, dU, dU, dU, dU, dU]) fr (la (la (la (la (la (la (la (la (la (la (la (la (la (la lz (dS ⟨b1, 0, none⟩ [(.int .i64 x.op), (.int .i64 x.n), (.slice x.eA x.exprs.length x.ec), (.slice x.bA x.body.length x.bc), (.slice x.lA x.els.length x.lc)] fun w_ hK => (blk_cells ((M3.then_ hK).get 0 rfl)))) (dD (fun w_ hK => thas_ff x 0 w_) (congrArg Value.bool hB145.symm))) dP) dK) dK) dK) dP) dP) dK) dK) dK) dK) dK) dK) ?_
 intro aC w150 vs hK hv fr
 revert aC; refine zkp [(72, (.bool false))] ?_
 have M151 := M3.then_ hK
 clear hK hv fr aC M3; clear vs
 refine zpn 3 <| zfe <| zre <| zbr <| zo1 (.bool false) ?_
 have hR : false = true ↔ False := by simp
 have M152 := M151.od [] 0
 exact ⟨bool_dec hR (⟨False.elim, fun h_ => by (try simp only [decide_eq_true_eq, decide_eq_false_iff_not] at *); rw [sfQ_7 (by omega)] at h_; omega⟩), M152⟩
 have c145 : (decide ((x.exprs.length : Int) = 0 ∧ x.body.length = 0 ∧ x.els.length = 0)) = true := hB145.symm
 obtain ⟨B153, hB153⟩ : ∃ B : Bool, B = decide (x.n ≥ 0) := ⟨_, rfl⟩
 cases B153
 have c153 : ¬ (x.n ≥ 0) := of_decide_eq_false hB153.symm
 refine zkp [(0, (pT c0 0)), (3, (pT b1 0)), (6, (.int .i64 x.op)), (62, (.bool true))] ?_
 intro aC fr
 refine zdt 14 (N := 103) (env0 := [(0, (pT c0 0)), (3, (pT b1 0)), (6, (.int .i64 x.op)), (62, (.bool true))]) (specAt [.det (.agg #[(.int .i64 x.op), (.int .i64 x.n), (.slice x.eA x.exprs.length x.ec), (.slice x.bA x.body.length x.bc), (.slice x.lA x.els.length x.lc)]), .det (.bool true), .det (.bool true), .det (pT b1 1), .det (.int .i64 x.n), .det (.bool false), .det (.bool false), .det (.bool false), dU, dU, dU, dU, dU, dU]) fr (la (la (la (la (la (la (la (la (la (la (la (la (la (la lz (dS ⟨b1, 0, none⟩ [(.int .i64 x.op), (.int .i64 x.n), (.slice x.eA x.exprs.length x.ec), (.slice x.bA x.body.length x.bc), (.slice x.lA x.els.length x.lc)] fun w_ hK => (blk_cells ((M3.then_ hK).get 0 rfl)))) (dD (fun w_ hK => thas_ff x 0 w_) (congrArg Value.bool hB145.symm))) dP) dP) (dL ⟨b1, 1, none⟩ (.int .i64 x.n) fun w_ hK => (blk_cell ((M3.then_ hK).get 0 rfl) rfl))) (dC (decide (x.n ≥ 0)) hB153)) dP) dP) dK) dK) dK) dK) dK) dK) ?_
 intro aC w158 vs hK hv fr
 revert aC; refine zkp [(72, (.bool false))] ?_
 have M159 := M3.then_ hK
 clear hK hv fr aC M3; clear vs
 refine zpn 3 <| zfe <| zre <| zbr <| zo1 (.bool false) ?_
 have hR : false = true ↔ False := by simp
 have M160 := M159.od [] 0
 exact ⟨bool_dec hR (⟨False.elim, fun h_ => by (try simp only [decide_eq_true_eq, decide_eq_false_iff_not] at *); rw [sfQ_7 (by omega)] at h_; omega⟩), M160⟩
 have c153 : x.n ≥ 0 := of_decide_eq_true hB153.symm
 refine zkp [(0, (pT c0 0)), (3, (pT b1 0)), (6, (.int .i64 x.op)), (62, (.bool true))] ?_
 intro aC fr
 refine zdt 14 (N := 103) (env0 := [(0, (pT c0 0)), (3, (pT b1 0)), (6, (.int .i64 x.op)), (62, (.bool true))]) (specAt [.det (.agg #[(.int .i64 x.op), (.int .i64 x.n), (.slice x.eA x.exprs.length x.ec), (.slice x.bA x.body.length x.bc), (.slice x.lA x.els.length x.lc)]), .det (.bool true), .det (.bool true), .det (pT b1 1), .det (.int .i64 x.n), .det (.bool true), .det (.bool true), .det (.bool true), .det (pT b1 1), .det (.int .i64 x.n), .det (pT c0 0), .det (pT c0 0), .det (pT c0 1), .det (.int .i64 lp)]) fr (la (la (la (la (la (la (la (la (la (la (la (la (la (la lz (dS ⟨b1, 0, none⟩ [(.int .i64 x.op), (.int .i64 x.n), (.slice x.eA x.exprs.length x.ec), (.slice x.bA x.body.length x.bc), (.slice x.lA x.els.length x.lc)] fun w_ hK => (blk_cells ((M3.then_ hK).get 0 rfl)))) (dD (fun w_ hK => thas_ff x 0 w_) (congrArg Value.bool hB145.symm))) dP) dP) (dL ⟨b1, 1, none⟩ (.int .i64 x.n) fun w_ hK => (blk_cell ((M3.then_ hK).get 0 rfl) rfl))) (dC (decide (x.n ≥ 0)) hB153)) dP) dP) dP) (dL ⟨b1, 1, none⟩ (.int .i64 x.n) fun w_ hK => (blk_cell ((M3.then_ hK).get 0 rfl) rfl))) dP) dP) dP) (dL ⟨c0, 1, none⟩ (.int .i64 lp) fun w_ hK => (blk_cell ((M3.then_ hK).ro hC) rfl))) ?_
 intro aC w165 vs hK hv fr
 revert aC; refine zkp [(72, (.bool true)), (74, (.int .i64 x.n)), (78, (.int .i64 lp))] ?_
 have M166 := M3.then_ hK
 clear hK hv fr aC M3; clear vs
 refine zpn 3 <| zfe <| zre <| zbr <| zo1 (.bool (decide ((x.n : Int) < lp))) ?_
 have hR : decide ((x.n : Int) < lp) = true ↔ ((x.n : Int) < lp) := by simp only [decide_eq_true_eq]
 have M167 := M166.od [] 0
 exact ⟨bool_dec hR (by (try simp only [decide_eq_true_eq, decide_eq_false_iff_not] at *); (try unfold placeQ at *); (try unfold codeQ at *); rw [sfQ_7 (by omega)]; omega), M167⟩
 have c45 : ((x.op : Int) = 3) := iB45.1 rfl
 refine zcT <| zsk <| zcT <| zsr <| zls ⟨b1, 0, none⟩ [(.int .i64 x.op), (.int .i64 x.n), (.slice x.eA x.exprs.length x.ec), (.slice x.bA x.body.length x.bc), (.slice x.lA x.els.length x.lc)] (blk_cells (M3.get 0 rfl)) <| zcl (thas_ff x 1 w2) ?_
 rintro _ w168 ⟨rfl, M169x⟩
 have M169 := M3.cl M169x
 refine zpn 1 ?_
 obtain ⟨B170, hB170⟩ : ∃ B : Bool, B = decide ((x.exprs.length : Int) = 1 ∧ x.body.length = 0 ∧ x.els.length = 0) := ⟨_, rfl⟩
 refine zkp [(3, (pT b1 0)), (39, (.bool (decide ((x.exprs.length : Int) = 1 ∧ x.body.length = 0 ∧ x.els.length = 0))))] ?_
 rw [← hB170]
 have iB170 : B170 = true ↔ ((x.exprs.length : Int) = 1 ∧ x.body.length = 0 ∧ x.els.length = 0) := by rw [hB170]; simp only [decide_eq_true_eq]
 clear hB170
 intro aC fr
 refine zpk 1 4 [40] fr (news := [(40, (cond B170 (pT b1 1) undef))]) (by cases B170 <;> kernel_rfl) ?_
 intro aC fr
 refine From_either (B := B170) (d := (some 41)) (.int .i64 x.n) fr (by cases B170 <;> kernel_rfl) (fun hB hh => ?_) ?_
 cases B170 <;> first | (exact absurd hB (by decide)) | skip
 have c170 : ((x.exprs.length : Int) = 1 ∧ x.body.length = 0 ∧ x.els.length = 0) := iB170.1 rfl
 exact From_ld (some 41) ⟨b1, 1, none⟩ fr (by kernel_rfl) (.int .i64 x.n) (blk_cell (M169.get 0 rfl) rfl) hh
 intro aC fr
 refine zpk 3 8 [4, 43] fr (news := [(4, (.bool (B170 && ((x.n : Int) == 0)))), (43, (.bool (B170 && ((x.n : Int) == 0))))]) (by cases B170 <;> kernel_rfl) ?_
 intro aC fr
 revert aC
 refine zfe <| zre <| zbr <| zo1 (.bool (B170 && ((x.n : Int) == 0))) ?_
 have hR : (B170 && ((x.n : Int) == 0)) = true ↔ (((x.exprs.length : Int) = 1 ∧ x.body.length = 0 ∧ x.els.length = 0) ∧ ((x.n : Int) = 0)) := by simp only [Bool.and_eq_true, beq_iff_eq, iB170]
 have M179 := M169.od [] 0
 exact ⟨bool_dec hR (by (try simp only [decide_eq_true_eq, decide_eq_false_iff_not] at *); (try unfold placeQ at *); (try unfold codeQ at *); rw [sfQ_3 (by omega)]; omega), M179⟩
end Go.Proofs.Ytdcgcjibgihbbaa
namespace Go.Proofs.Ytdcgcjibgihbbaa
open Go.Mor
theorem texv_c (e : MEx) (ih : ∀ k, k ∈ e.kids → ExVOk Try.prog k) (d : Int) (c0 : Nat) (lo lp : Int) (T : List Res) (w : World) (hd0 : 0 ≤ d) (hd : d ≤ 1000) (hC : RO noS w (chkB c0 lo lp)) (hT : RO noS w (.all T)) (hs : SubE T e) (hI : exI e) :
    Calls Try.prog 68 #[(pT c0 0), (.agg #[(.int .i64 e.op), (.int .i64 e.n), (.string e.nm), (.slice e.A e.kids.length e.c)]), (.int .i64 d)] w (Ret fun v w' => v = .bool (exV lo d e) ∧ Mem noS w w' []) := by
 have hkl := hI.own.kids
 unfold LenOk at hkl
 refine zen 31 [(pT c0 0), (.agg #[(.int .i64 e.op), (.int .i64 e.n), (.string e.nm), (.slice e.A e.kids.length e.c)]), (.int .i64 d)] Try.func68 ?_
 have hM := Mem.init w
 refine zsr <| zbx hM 53 (.agg #[(.int .i64 e.op), (.int .i64 e.n), (.string e.nm), (.slice e.A e.kids.length e.c)]) [(.int .i64 e.op), (.int .i64 e.n), (.string e.nm), (.slice e.A e.kids.length e.c)] fun b1 w2 hb1 M3 => ?_
 replace M3 := M3.nf
 clear hM
 refine zpn 1 <| zfe <| zsq <| zsr <| zpn 3 ?_
 obtain ⟨B4, hB4⟩ : ∃ B : Bool, B = decide ((d : Int) > 100) := ⟨_, rfl⟩
 refine zkp [(0, (pT c0 0)), (2, (.int .i64 d)), (4, (pT b1 0)), (11, (.bool (decide ((d : Int) > 100))))] ?_
 rw [← hB4]
 have iB4 : B4 = true ↔ ((d : Int) > 100) := by rw [hB4]; simp only [decide_eq_true_eq]
 clear hB4
 intro aC fr
 refine zpk 1 4 [12] fr (news := [(12, (cond (!B4) (pT c0 0) undef))]) (by cases B4 <;> kernel_rfl) ?_
 intro aC fr
 cases B4
 have c4 : ¬ ((d : Int) > 100) := (fun h => Bool.noConfusion (iB4.2 h) : ¬ ((d : Int) > 100))
 revert aC
 refine zls ⟨b1, 0, none⟩ [(.int .i64 e.op), (.int .i64 e.n), (.string e.nm), (.slice e.A e.kids.length e.c)] (blk_cells (M3.get 0 rfl)) <| zcl (tshape_c w2 c0 lo lp (hC.at_ M3) e hI.own) ?_
 rintro _ w9 ⟨rfl, M10x⟩
 have M10 := M3.cl M10x
 refine zpn 2 <| zfe <| zcP (!(decide (esQ lo e.op e.n e.nm.size e.kids.length))) (¬ (esQ lo e.op e.n e.nm.size e.kids.length)) (by simp only [notT, decide_eq_true_eq]) (fun c11 => ?_) (fun c11 => ?_)
 refine zsp <| zre <| zo1 (.bool false) ?_
 have M12 := M10.od [] 0
 exact ⟨congrArg Value.bool (by rw [exV_eq, decide_eq_false (by first | exact or_nand c11 | exact (fun h_ => c11 h_.2) | exact (fun h_ => absurd h_.1 (by omega))), Bool.false_and] : exV lo d e = false).symm, M12⟩
 refine zsk <| zsq <| zsr <| zpn 1 <| zld ⟨b1, 3, none⟩ (.slice e.A e.kids.length e.c) (blk_cell (M10.get 0 rfl) rfl) <| zpn 2 <| zfe <| zbk 0 ?_
 have hsq : d ≤ 100 ∧ esQ lo e.op e.n e.nm.size e.kids.length := by first | exact nor_and c11 | exact ⟨by omega, Classical.not_not.1 c11⟩
 have hx0 : exV lo d e = exsV lo (d + 1) (e.kids.drop 0) := by rw [exV_eq, decide_eq_true hsq, Bool.true_and, List.drop_zero]
 intro aC fr
 refine zlp (fun n_ a_ w_ => ∃ (j : Nat), n_ = e.kids.length - j ∧ Fr a_ 31 [(0, (pT c0 0)), (2, (.int .i64 d)), (18, (.slice e.A e.kids.length e.c)), (19, (.int .i64 ((e.kids.length : Nat) : Int))), (20, (nV j))] ∧ Mem noS w w_ [.blk b1 53 [(.int .i64 e.op), (.int .i64 e.n), (.string e.nm), (.slice e.A e.kids.length e.c)]] ∧ (j ≤ e.kids.length) ∧ (exV lo d e = exsV lo (d + 1) (e.kids.drop j))) (n := _) ⟨0, rfl, fr.kp [0, 2, 18, 19, 20], M10, Nat.zero_le _, hx0⟩ ?_
 clear fr aC M10; rintro n aC w15 ⟨j, rfl, fr, M16, hj, hr⟩
 revert aC
 refine zsp <| zsq <| zcD (((j : Int) : Int) < ((e.kids.length : Nat) : Int)) (fun c19 => ?_) (fun c19 => ?_)
 refine zsk <| zsq <| zbk 1 <| zsr ?_
 obtain ⟨k, hk⟩ := get_of (l := e.kids) (i := j) (by omega)
 have hkm := List.mem_of_getElem? hk
 obtain ⟨ad20, had21⟩ := rds_some (M16.ro (hT.sub hs.kids.1)) (cs := k.cells) (i := j) (by rw [List.getElem?_map, hk]; rfl)
 intro aC fr
 refine From_ixA (some 22) e.A ad20 e.kids.length 4 (j : Int) fr (by kernel_rfl) had21 (by omega) (by omega) ?_
 intro aC fr
 revert aC
 refine zls ((ad20 : Addr).add (((j : Int)).toNat * 4)) [(.int .i64 k.op), (.int .i64 k.n), (.string k.nm), (.slice k.A k.kids.length k.c)] (rds_cells (i := j) (M16.ro (hT.sub hs.kids.1)) had21 (by rw [List.getElem?_map, hk]; rfl)) ?_
 refine zal M16 53 [(.int .i64 0), (.int .i64 0), (.string ⟨#[]⟩), (.slice none 0 0)] fun b26 w27 hb26 M28 => ?_
 replace M28 := M28.nf
 refine zss M28 1 [(.int .i64 k.op), (.int .i64 k.n), (.string k.nm), (.slice k.A k.kids.length k.c)] rfl fun w29 M30 => ?_
 replace M30 := M30.nf
 refine zfe <| zsr <| zpn 1 <| zls ⟨b26, 0, none⟩ [(.int .i64 k.op), (.int .i64 k.n), (.string k.nm), (.slice k.A k.kids.length k.c)] (blk_cells (M30.get 1 rfl)) <| zpn 1 <| zar (d + 1) <| zcl (ih k hkm (d + 1) c0 lo lp T w29 (by omega) (by omega) (hC.at_ M30) (hT.at_ M30) (hs.kids.2 k hkm) (exsI_mem hI.kids hkm)) ?_
 rintro _ w31 ⟨rfl, M32x⟩
 have M32 := M30.cl M32x
 refine zpn 1 <| zfe <| zcP (!(exV lo (d + 1) k)) (¬ ((exV lo (d + 1) k) = true)) (by simp only [notT]) (fun c33 => ?_) (fun c33 => ?_)
 replace c33 : (exV lo (d + 1) k) = false := Bool.eq_false_iff.2 c33
 refine zsp <| zre <| zbr <| zbr <| zo1 (.bool false) ?_
 have M34 := M32.od [] 0
 exact ⟨congrArg Value.bool (hr.trans (by rw [exsV_at hk, c33, Bool.false_and])).symm, M34⟩
 replace c33 : (exV lo (d + 1) k) = true := Classical.not_not.1 c33
 refine zsk <| zrg <| zar ((j : Int) + 1) <| zkp [(0, (pT c0 0)), (2, (.int .i64 d)), (18, (.slice e.A e.kids.length e.c)), (19, (.int .i64 ((e.kids.length : Nat) : Int))), (30, (.int .i64 ((j : Int) + 1)))] <| zpn 1 <| zfe ?_
 intro aC fr
 exact ⟨e.kids.length - (j + 1), by omega, j + 1, rfl, fr.kp [0, 2, 18, 19, 20], (M32.tk 1), by omega, hr.trans (by rw [exsV_at hk, c33, Bool.true_and])⟩
 refine zex 0 <| zbh <| zsp <| zre <| zo1 (.bool true) ?_
 have M37 := M16.od [] 0
 exact ⟨congrArg Value.bool (hr.trans (by rw [List.drop_eq_nil_of_le (by omega), exsV_nil])).symm, M37⟩
 have c4 : ((d : Int) > 100) := iB4.1 rfl
 revert aC
 refine zpn 4 <| zfe <| zcT <| zsp <| zre <| zo1 (.bool false) ?_
 have M38 := M3.od [] 0
 exact ⟨congrArg Value.bool (by rw [exV_eq, decide_eq_false (by first | exact or_nand c4 | exact (fun h_ => c4 h_.2) | exact (fun h_ => absurd h_.1 (by omega))), Bool.false_and] : exV lo d e = false).symm, M38⟩
theorem texv_all (e : MEx) : ExVOk Try.prog e := MEx.ind (fun e ih d c0 lo lp T w h0 h1 hC hT hs hI => texv_c e ih d c0 lo lp T w h0 h1 hC hT hs hI) e
set_option maxHeartbeats 1000000 in
theorem tstsv_c (l : List MSt) (ih : ∀ x, x ∈ l → StsVOk Try.prog x.body ∧ StsVOk Try.prog x.els) (A : Option Addr) (c : Nat) (d : Int) (c0 : Nat) (lo lp : Int) (T : List Res) (w : World) (hd0 : 0 ≤ d) (hd : d ≤ 1000) (hp0 : 0 ≤ lp) (hpd : lp ≤ d) (hR : (chkB c0 lo lp).holds w) (hT : RO (chkB c0 lo lp).fp w (.all T)) (hs : SubXs T A l) (hI : stsI l) (hll : LenOk l.length) :
    Calls Try.prog 49 #[(pT c0 0), (.slice A l.length c), (.int .i64 d)] w (Ret fun v w' => ∃ q, v = .bool (stsV lo lp d l) ∧ (stsV lo lp d l = true → q = lp) ∧ Mem (chkB c0 lo lp).fp w w' [chkB c0 lo q]) := by
 unfold LenOk at hll
 refine zen 76 [(pT c0 0), (.slice A l.length c), (.int .i64 d)] Try.func49 ?_
 have hM := Mem.initS hR
 refine zsp <| zsq <| zsp <| zbk 0 ?_
 intro aC fr
 refine zlp (fun n_ a_ w_ => ∃ (j : Nat), n_ = l.length - j ∧ Fr a_ 76 [(0, (pT c0 0)), (2, (.int .i64 d)), (11, (.slice A l.length c)), (12, (.int .i64 ((l.length : Nat) : Int))), (13, (nV j))] ∧ Mem (chkB c0 lo lp).fp w w_ [.blk c0 92 [(.int .i64 lo), (.int .i64 lp)]] ∧ (j ≤ l.length) ∧ (stsV lo lp d l = stsV lo lp d (l.drop j))) (n := _) ⟨0, rfl, fr.kp [0, 2, 11, 12, 13], hM, Nat.zero_le _, (by rw [List.drop_zero])⟩ ?_
 clear fr aC hM; rintro n aC w3 ⟨j, rfl, fr, M4, hj, hr⟩
 revert aC
 refine zsp <| zsq <| zcD (((j : Int) : Int) < ((l.length : Nat) : Int)) (fun c7 => ?_) (fun c7 => ?_)
 refine zsk <| zsq <| zbk 1 <| zsr ?_
 obtain ⟨x, hx⟩ := get_of (l := l) (i := j) (by omega)
 have hxm := List.mem_of_getElem? hx
 have hxI := stsI_mem hI hxm
 have h1_ := hxI.own.exprs
 unfold LenOk at h1_
 obtain ⟨ad8, rfl⟩ := rds_some (M4.ro (hT.sub hs.1)) (cs := x.cells) (i := j) (by rw [List.getElem?_map, hx]; rfl)
 refine zix ad8 l.length 5 (j : Int) ?_
 refine zls ((ad8 : Addr).add (((j : Int)).toNat * 5)) [(.int .i64 x.op), (.int .i64 x.n), (.slice x.eA x.exprs.length x.ec), (.slice x.bA x.body.length x.bc), (.slice x.lA x.els.length x.lc)] (rds_cells (i := j) (M4.ro (hT.sub hs.1)) rfl (by rw [List.getElem?_map, hx]; rfl)) ?_
 refine zal M4 48 [(.int .i64 0), (.int .i64 0), (.slice none 0 0), (.slice none 0 0), (.slice none 0 0)] fun b9 w10 hb9 M11 => ?_
 replace M11 := M11.nf
 refine zss M11 1 [(.int .i64 x.op), (.int .i64 x.n), (.slice x.eA x.exprs.length x.ec), (.slice x.bA x.body.length x.bc), (.slice x.lA x.els.length x.lc)] rfl fun w12 M13 => ?_
 replace M13 := M13.nf
 refine zfe <| zsq <| zsr <| zpn 3 ?_
 obtain ⟨B14, hB14⟩ : ∃ B : Bool, B = decide ((d : Int) > 100) := ⟨_, rfl⟩
 refine zkp [(0, (pT c0 0)), (2, (.int .i64 d)), (8, (pT b9 0)), (11, (.slice (some ad8) l.length c)), (12, (.int .i64 ((l.length : Nat) : Int))), (13, (nV j)), (19, (.bool (decide ((d : Int) > 100))))] ?_
 rw [← hB14]
 have iB14 : B14 = true ↔ ((d : Int) > 100) := by rw [hB14]; simp only [decide_eq_true_eq]
 clear hB14
 intro aC fr
 refine zpk 1 4 [20] fr (news := [(20, (cond (!B14) (pT c0 0) undef))]) (by cases B14 <;> kernel_rfl) ?_
 intro aC fr
 cases B14
 have c14 : ¬ ((d : Int) > 100) := (fun h => Bool.noConfusion (iB14.2 h) : ¬ ((d : Int) > 100))
 revert aC
 refine zls ⟨b9, 0, none⟩ [(.int .i64 x.op), (.int .i64 x.n), (.slice x.eA x.exprs.length x.ec), (.slice x.bA x.body.length x.bc), (.slice x.lA x.els.length x.lc)] (blk_cells (M13.get 1 rfl)) <| zcl (tform_c w12 c0 lo lp (M13.own_ro 0 rfl) x hxI.own) ?_
 rintro _ w19 ⟨rfl, M20x⟩
 have M20 := M13.cl M20x
 refine zpn 2 <| zfe <| zcP (!(decide (sfQ lo lp x.op x.n x.exprs.length x.body.length x.els.length))) (¬ (sfQ lo lp x.op x.n x.exprs.length x.body.length x.els.length)) (by simp only [notT, decide_eq_true_eq]) (fun c21 => ?_) (fun c21 => ?_)
 refine zsp <| zre <| zbr <| zbr <| zo1 (.bool false) ?_
 have hF_ : stsV lo lp d l = false := hr.trans (by rw [stsV_at hx, stV_eq, decide_eq_false (by first | exact or_nand c21 | exact (fun h_ => c21 h_.2) | exact (fun h_ => absurd h_.1 (by omega))), Bool.false_and, Bool.false_and])
 exact ⟨lp, congrArg Value.bool hF_.symm, fun h_ => Bool.noConfusion (hF_.symm.trans h_), M20.tk 1⟩
 refine zsk <| zsq <| zsr <| zpn 1 <| zld ⟨b9, 2, none⟩ (.slice x.eA x.exprs.length x.ec) (blk_cell (M20.get 1 rfl) rfl) <| zpn 2 <| zfe <| zbk 2 ?_
 have hsq : d ≤ 100 ∧ sfQ lo lp x.op x.n x.exprs.length x.body.length x.els.length := by first | exact nor_and c21 | exact ⟨by omega, Classical.not_not.1 c21⟩
 intro aC fr
 refine zlp (fun n_ a_ w_ => ∃ (k : Nat), n_ = x.exprs.length - k ∧ Fr a_ 76 [(0, (pT c0 0)), (2, (.int .i64 d)), (8, (pT b9 0)), (11, (.slice (some ad8) l.length c)), (12, (.int .i64 ((l.length : Nat) : Int))), (13, (nV j)), (26, (.slice x.eA x.exprs.length x.ec)), (27, (.int .i64 ((x.exprs.length : Nat) : Int))), (28, (nV k))] ∧ Mem (chkB c0 lo lp).fp w w_ [.blk c0 92 [(.int .i64 lo), (.int .i64 lp)], .blk b9 48 [(.int .i64 x.op), (.int .i64 x.n), (.slice x.eA x.exprs.length x.ec), (.slice x.bA x.body.length x.bc), (.slice x.lA x.els.length x.lc)]] ∧ (k ≤ x.exprs.length) ∧ (exsV lo (d + 1) x.exprs = exsV lo (d + 1) (x.exprs.drop k))) (n := _) ⟨0, rfl, fr.kp [0, 2, 8, 11, 12, 13, 26, 27, 28], M20, Nat.zero_le _, (by rw [List.drop_zero])⟩ ?_
 clear fr aC M20; rintro n aC w24 ⟨k, rfl, fr, M25, hk, hre⟩
 revert aC
 refine zsp <| zsq <| zcD (((k : Int) : Int) < ((x.exprs.length : Nat) : Int)) (fun c28 => ?_) (fun c28 => ?_)
 refine zsk <| zsq <| zbk 3 <| zsr ?_
 obtain ⟨y, hy⟩ := get_of (l := x.exprs) (i := k) (by omega)
 have hym := List.mem_of_getElem? hy
 obtain ⟨ad29, had30⟩ := rds_some (M25.ro (hT.sub (hs.2 x hxm).exprs.1)) (cs := y.cells) (i := k) (by rw [List.getElem?_map, hy]; rfl)
 intro aC fr
 refine From_ixA (some 30) x.eA ad29 x.exprs.length 4 (k : Int) fr (by kernel_rfl) had30 (by omega) (by omega) ?_
 intro aC fr
 revert aC
 refine zls ((ad29 : Addr).add (((k : Int)).toNat * 4)) [(.int .i64 y.op), (.int .i64 y.n), (.string y.nm), (.slice y.A y.kids.length y.c)] (rds_cells (i := k) (M25.ro (hT.sub (hs.2 x hxm).exprs.1)) had30 (by rw [List.getElem?_map, hy]; rfl)) ?_
 refine zal M25 53 [(.int .i64 0), (.int .i64 0), (.string ⟨#[]⟩), (.slice none 0 0)] fun b35 w36 hb35 M37 => ?_
 replace M37 := M37.nf
 refine zss M37 2 [(.int .i64 y.op), (.int .i64 y.n), (.string y.nm), (.slice y.A y.kids.length y.c)] rfl fun w38 M39 => ?_
 replace M39 := M39.nf
 refine zfe <| zsr <| zpn 1 <| zls ⟨b35, 0, none⟩ [(.int .i64 y.op), (.int .i64 y.n), (.string y.nm), (.slice y.A y.kids.length y.c)] (blk_cells (M39.get 2 rfl)) <| zpn 1 <| zar (d + 1) <| zcl (texv_all y (d + 1) c0 lo lp T w38 (by omega) (by omega) (M39.own_ro 0 rfl) (hT.at_ M39) ((hs.2 x hxm).exprs.2 y hym) (exsI_mem hxI.exprs hym)) ?_
 rintro _ w40 ⟨rfl, M41x⟩
 have M41 := M39.cl M41x
 refine zpn 1 <| zfe <| zcP (!(exV lo (d + 1) y)) (¬ ((exV lo (d + 1) y) = true)) (by simp only [notT]) (fun c42 => ?_) (fun c42 => ?_)
 replace c42 : (exV lo (d + 1) y) = false := Bool.eq_false_iff.2 c42
 refine zsp <| zre <| zbr <| zbr <| zbr <| zbr <| zo1 (.bool false) ?_
 have hF_ : stsV lo lp d l = false := hr.trans (by rw [stsV_at hx, stV_eq, hre, exsV_at hy, c42, Bool.false_and, Bool.false_and, Bool.and_false, Bool.false_and])
 exact ⟨lp, congrArg Value.bool hF_.symm, fun h_ => Bool.noConfusion (hF_.symm.trans h_), M41.tk 1⟩
 replace c42 : (exV lo (d + 1) y) = true := Classical.not_not.1 c42
 refine zsk <| zrg <| zar ((k : Int) + 1) <| zkp [(0, (pT c0 0)), (2, (.int .i64 d)), (8, (pT b9 0)), (11, (.slice (some ad8) l.length c)), (12, (.int .i64 ((l.length : Nat) : Int))), (13, (nV j)), (26, (.slice x.eA x.exprs.length x.ec)), (27, (.int .i64 ((x.exprs.length : Nat) : Int))), (38, (.int .i64 ((k : Int) + 1)))] <| zpn 1 <| zfe ?_
 intro aC fr
 exact ⟨x.exprs.length - (k + 1), by omega, k + 1, rfl, fr.kp [0, 2, 8, 11, 12, 13, 26, 27, 28], (M41.tk 2), by omega, hre.trans (by rw [exsV_at hy, c42, Bool.true_and])⟩
 refine zex 2 <| zbh <| zsq <| zsr ?_
 have hxe : exsV lo (d + 1) x.exprs = true := hre.trans (by rw [List.drop_eq_nil_of_le (by omega), exsV_nil])
 refine zpn 1 <| zld ⟨b9, 0, none⟩ (.int .i64 x.op) (blk_cell (M25.get 1 rfl) rfl) <| zpn 1 <| zfe <| zcP ((x.op : Int) == 6) ((x.op : Int) = 6) (by simp only [beq_iff_eq]) (fun c45 => ?_) (fun c45 => ?_)
 have hin : inner x.op lp = (lp + 1) := if_pos c45
 refine zrg <| zpn 3 <| zld ⟨c0, 1, none⟩ (.int .i64 lp) (blk_cell (M25.get 0 rfl) rfl) <| zar (lp + 1) <| zpn 2 <| zsb (ho := (by simp)) M25 0 1 (.int .i64 (lp + 1)) rfl fun w46 M47 => ?_
 replace M47 := M47.nf
 refine zfe <| zsq <| zsr <| zpn 2 <| zld ⟨b9, 3, none⟩ (.slice x.bA x.body.length x.bc) (blk_cell (M47.get 1 rfl) rfl) <| zpn 1 <| zar (d + 1) <| zkp [(0, (pT c0 0)), (2, (.int .i64 d)), (8, (pT b9 0)), (11, (.slice (some ad8) l.length c)), (12, (.int .i64 ((l.length : Nat) : Int))), (13, (nV j)), (49, (pT c0 0)), (51, (.slice x.bA x.body.length x.bc)), (53, (.int .i64 (d + 1)))] <| zcl ((ih x hxm).1 x.bA x.bc (d + 1) c0 lo (lp + 1) T w46 (by omega) (by omega) (by omega) (by omega) (M47.get 0 rfl) (hT.but M47 0 rfl) (hs.2 x hxm).body hxI.body hxI.own.body) ?_
 rintro _ w50 ⟨q48, rfl, hq49, M51x⟩
 have M51 := M47.md 0 rfl M51x
 refine zpn 2 ?_
 obtain ⟨B52, hB52⟩ : ∃ B : Bool, B = (!(stsV lo (lp + 1) (d + 1) x.body)) := ⟨_, rfl⟩
 refine zkp [(0, (pT c0 0)), (2, (.int .i64 d)), (8, (pT b9 0)), (11, (.slice (some ad8) l.length c)), (12, (.int .i64 ((l.length : Nat) : Int))), (13, (nV j)), (56, (.bool (!(stsV lo (lp + 1) (d + 1) x.body))))] ?_
 rw [← hB52]
 have iB52 : B52 = true ↔ (¬ ((stsV lo (lp + 1) (d + 1) x.body) = true)) := by rw [hB52]; simp only [notT]
 clear hB52
 intro aC fr
 refine zpk 2 10 [57, 58] fr (news := [(57, (cond (!B52) (pT c0 0) undef)), (58, (cond (!B52) (pT b9 4) undef))]) (by cases B52 <;> kernel_rfl) ?_
 intro aC fr
 refine From_either (B := (!B52)) (d := (some 59)) (.slice x.lA x.els.length x.lc) fr (by cases B52 <;> kernel_rfl) (fun hB hh => ?_) ?_
 cases B52 <;> first | (exact absurd hB (by decide)) | skip
 have c52 : (stsV lo (lp + 1) (d + 1) x.body) = true := Classical.not_not.1 ((fun h => Bool.noConfusion (iB52.2 h) : ¬ (¬ ((stsV lo (lp + 1) (d + 1) x.body) = true))))
 exact From_ld (some 59) ⟨b9, 4, none⟩ fr (by kernel_rfl) (.slice x.lA x.els.length x.lc) (blk_cell (M51.get 1 rfl) rfl) hh
 intro aC fr
 refine zpk 1 12 [60] fr (news := [(60, (cond (!B52) (.int .i64 d) undef))]) (by cases B52 <;> kernel_rfl) ?_
 intro aC fr
 refine From_either (B := (!B52)) (d := (some 61)) (.int .i64 (d + 1)) fr (by cases B52 <;> kernel_rfl) (fun hB hh => ?_) ?_
 cases B52 <;> first | (exact absurd hB (by decide)) | skip
 have c52 : (stsV lo (lp + 1) (d + 1) x.body) = true := Classical.not_not.1 ((fun h => Bool.noConfusion (iB52.2 h) : ¬ (¬ ((stsV lo (lp + 1) (d + 1) x.body) = true))))
 exact From_ar (some 61) (d + 1) fr (z0 := d + 1) (by kernel_rfl) rfl (by omega) (by omega) hh
 intro aC fr
 cases B52
 have c52 : (stsV lo (lp + 1) (d + 1) x.body) = true := Classical.not_not.1 ((fun h => Bool.noConfusion (iB52.2 h) : ¬ (¬ ((stsV lo (lp + 1) (d + 1) x.body) = true))))
 obtain rfl := hq49 c52
 have hfb_ : stsV lo (inner x.op lp) (d + 1) x.body = true := by rw [hin]; exact c52
 revert aC
 refine zcl ((ih x hxm).2 x.lA x.lc (d + 1) c0 lo (lp + 1) T w50 (by omega) (by omega) (by omega) (by omega) (M51.get 0 rfl) (hT.but M51 0 rfl) (hs.2 x hxm).els hxI.els hxI.own.els) ?_
 rintro _ w67 ⟨q65, rfl, hq66, M68x⟩
 have M68 := M51.md 0 rfl M68x
 refine zpn 2 <| zfe <| zcP (!(stsV lo (lp + 1) (d + 1) x.els)) (¬ ((stsV lo (lp + 1) (d + 1) x.els) = true)) (by simp only [notT]) (fun c69 => ?_) (fun c69 => ?_)
 replace c69 : (stsV lo (lp + 1) (d + 1) x.els) = false := Bool.eq_false_iff.2 c69
 refine zsp <| zre <| zbr <| zbr <| zo1 (.bool false) ?_
 have hF_ : stsV lo lp d l = false := hr.trans (by rw [stsV_at hx, stV_eq, hin, c69]; simp)
 exact ⟨q65, congrArg Value.bool hF_.symm, fun h_ => Bool.noConfusion (hF_.symm.trans h_), M68.tk 1⟩
 replace c69 : (stsV lo (lp + 1) (d + 1) x.els) = true := Classical.not_not.1 c69
 obtain rfl := hq66 c69
 have hfl_ : stsV lo (inner x.op lp) (d + 1) x.els = true := by rw [hin]; exact c69
 refine zsk <| zsr <| zpn 1 <| zld ⟨b9, 0, none⟩ (.int .i64 x.op) (blk_cell (M68.get 1 rfl) rfl) <| zpn 1 <| zfe <| zcP ((x.op : Int) == 6) ((x.op : Int) = 6) (by simp only [beq_iff_eq]) (fun c70 => ?_) (fun c70 => ?_)
 refine zrg <| zpn 3 <| zld ⟨c0, 1, none⟩ (.int .i64 (lp + 1)) (blk_cell (M68.get 0 rfl) rfl) <| zar ((lp + 1) - 1) <| zkp [(0, (pT c0 0)), (2, (.int .i64 d)), (11, (.slice (some ad8) l.length c)), (12, (.int .i64 ((l.length : Nat) : Int))), (13, (nV j)), (68, (pT c0 0)), (72, (.int .i64 ((lp + 1) - 1)))] <| zpn 2 <| zsb (ho := (by simp)) M68 0 1 (.int .i64 ((lp + 1) - 1)) rfl fun w71 M72 => ?_
 replace M72 := M72.nf
 refine zfe <| zrg ?_
 have M73 : Mem (chkB c0 lo lp).fp w w71 [.blk c0 92 [(.int .i64 lo), (.int .i64 lp)], .blk b9 48 [(.int .i64 x.op), (.int .i64 x.n), (.slice x.eA x.exprs.length x.ec), (.slice x.bA x.body.length x.bc), (.slice x.lA x.els.length x.lc)]] := M72.cast (by rw [show lp + 1 - 1 = lp by omega])
 refine zar ((j : Int) + 1) <| zpn 1 <| zfe ?_
 intro aC fr
 exact ⟨l.length - (j + 1), by omega, j + 1, rfl, fr.kp [0, 2, 11, 12, 13], (M73.tk 1), by omega, hr.trans (by rw [stsV_at hx, stV_eq, decide_eq_true hsq, hxe, hfb_, hfl_]; rfl)⟩
 exact absurd c45 c70
 have c52 : (stsV lo (lp + 1) (d + 1) x.body) = false := Bool.eq_false_iff.2 (iB52.1 rfl)
 revert aC
 refine zpn 3 <| zfe <| zcT <| zsp <| zre <| zbr <| zbr <| zo1 (.bool false) ?_
 have hF_ : stsV lo lp d l = false := hr.trans (by rw [stsV_at hx, stV_eq, hin, c52]; simp)
 exact ⟨q48, congrArg Value.bool hF_.symm, fun h_ => Bool.noConfusion (hF_.symm.trans h_), M51.tk 1⟩
 have hin : inner x.op lp = lp := if_neg c45
 refine zsk <| zsq <| zsr <| zpn 2 <| zld ⟨b9, 3, none⟩ (.slice x.bA x.body.length x.bc) (blk_cell (M25.get 1 rfl) rfl) <| zpn 1 <| zar (d + 1) <| zcl ((ih x hxm).1 x.bA x.bc (d + 1) c0 lo lp T w24 (by omega) (by omega) (by omega) (by omega) (M25.get 0 rfl) (hT.but M25 0 rfl) (hs.2 x hxm).body hxI.body hxI.own.body) ?_
 rintro _ w78 ⟨q76, rfl, hq77, M79x⟩
 have M79 := M25.md 0 rfl M79x
 refine zpn 2 ?_
 obtain ⟨B80, hB80⟩ : ∃ B : Bool, B = (!(stsV lo lp (d + 1) x.body)) := ⟨_, rfl⟩
 refine zkp [(0, (pT c0 0)), (2, (.int .i64 d)), (8, (pT b9 0)), (11, (.slice (some ad8) l.length c)), (12, (.int .i64 ((l.length : Nat) : Int))), (13, (nV j)), (56, (.bool (!(stsV lo lp (d + 1) x.body))))] ?_
 rw [← hB80]
 have iB80 : B80 = true ↔ (¬ ((stsV lo lp (d + 1) x.body) = true)) := by rw [hB80]; simp only [notT]
 clear hB80
 intro aC fr
 refine zpk 2 10 [57, 58] fr (news := [(57, (cond (!B80) (pT c0 0) undef)), (58, (cond (!B80) (pT b9 4) undef))]) (by cases B80 <;> kernel_rfl) ?_
 intro aC fr
 refine From_either (B := (!B80)) (d := (some 59)) (.slice x.lA x.els.length x.lc) fr (by cases B80 <;> kernel_rfl) (fun hB hh => ?_) ?_
 cases B80 <;> first | (exact absurd hB (by decide)) | skip
 have c80 : (stsV lo lp (d + 1) x.body) = true := Classical.not_not.1 ((fun h => Bool.noConfusion (iB80.2 h) : ¬ (¬ ((stsV lo lp (d + 1) x.body) = true))))
 exact From_ld (some 59) ⟨b9, 4, none⟩ fr (by kernel_rfl) (.slice x.lA x.els.length x.lc) (blk_cell (M79.get 1 rfl) rfl) hh
 intro aC fr
 refine zpk 1 12 [60] fr (news := [(60, (cond (!B80) (.int .i64 d) undef))]) (by cases B80 <;> kernel_rfl) ?_
 intro aC fr
 refine From_either (B := (!B80)) (d := (some 61)) (.int .i64 (d + 1)) fr (by cases B80 <;> kernel_rfl) (fun hB hh => ?_) ?_
 cases B80 <;> first | (exact absurd hB (by decide)) | skip
 have c80 : (stsV lo lp (d + 1) x.body) = true := Classical.not_not.1 ((fun h => Bool.noConfusion (iB80.2 h) : ¬ (¬ ((stsV lo lp (d + 1) x.body) = true))))
 exact From_ar (some 61) (d + 1) fr (z0 := d + 1) (by kernel_rfl) rfl (by omega) (by omega) hh
 intro aC fr
 cases B80
 have c80 : (stsV lo lp (d + 1) x.body) = true := Classical.not_not.1 ((fun h => Bool.noConfusion (iB80.2 h) : ¬ (¬ ((stsV lo lp (d + 1) x.body) = true))))
 have hq772 := (hq77 c80).symm
 subst hq772
 have hfb_ : stsV lo (inner x.op lp) (d + 1) x.body = true := by rw [hin]; exact c80
 revert aC
 refine zcl ((ih x hxm).2 x.lA x.lc (d + 1) c0 lo lp T w78 (by omega) (by omega) (by omega) (by omega) (M79.get 0 rfl) (hT.but M79 0 rfl) (hs.2 x hxm).els hxI.els hxI.own.els) ?_
 rintro _ w95 ⟨q93, rfl, hq94, M96x⟩
 have M96 := M79.md 0 rfl M96x
 refine zpn 2 <| zfe <| zcP (!(stsV lo lp (d + 1) x.els)) (¬ ((stsV lo lp (d + 1) x.els) = true)) (by simp only [notT]) (fun c97 => ?_) (fun c97 => ?_)
 replace c97 : (stsV lo lp (d + 1) x.els) = false := Bool.eq_false_iff.2 c97
 refine zsp <| zre <| zbr <| zbr <| zo1 (.bool false) ?_
 have hF_ : stsV lo lp d l = false := hr.trans (by rw [stsV_at hx, stV_eq, hin, c97]; simp)
 exact ⟨q93, congrArg Value.bool hF_.symm, fun h_ => Bool.noConfusion (hF_.symm.trans h_), M96.tk 1⟩
 replace c97 : (stsV lo lp (d + 1) x.els) = true := Classical.not_not.1 c97
 have hq942 := (hq94 c97).symm
 subst hq942
 have hfl_ : stsV lo (inner x.op lp) (d + 1) x.els = true := by rw [hin]; exact c97
 refine zsk <| zsr <| zpn 1 <| zld ⟨b9, 0, none⟩ (.int .i64 x.op) (blk_cell (M96.get 1 rfl) rfl) <| zpn 1 <| zfe <| zcP ((x.op : Int) == 6) ((x.op : Int) = 6) (by simp only [beq_iff_eq]) (fun c98 => ?_) (fun c98 => ?_)
 exact absurd c98 c45
 refine zsk <| zrg <| zar ((j : Int) + 1) <| zpn 1 <| zfe ?_
 intro aC fr
 exact ⟨l.length - (j + 1), by omega, j + 1, rfl, fr.kp [0, 2, 11, 12, 13], (M96.tk 1), by omega, hr.trans (by rw [stsV_at hx, stV_eq, decide_eq_true hsq, hxe, hfb_, hfl_]; rfl)⟩
 have c80 : (stsV lo lp (d + 1) x.body) = false := Bool.eq_false_iff.2 (iB80.1 rfl)
 revert aC
 refine zpn 3 <| zfe <| zcT <| zsp <| zre <| zbr <| zbr <| zo1 (.bool false) ?_
 have hF_ : stsV lo lp d l = false := hr.trans (by rw [stsV_at hx, stV_eq, hin, c80]; simp)
 exact ⟨q76, congrArg Value.bool hF_.symm, fun h_ => Bool.noConfusion (hF_.symm.trans h_), M79.tk 1⟩
 have c14 : ((d : Int) > 100) := iB14.1 rfl
 revert aC
 refine zpn 4 <| zfe <| zcT <| zsp <| zre <| zbr <| zbr <| zo1 (.bool false) ?_
 have hF_ : stsV lo lp d l = false := hr.trans (by rw [stsV_at hx, stV_eq, decide_eq_false (by first | exact or_nand c14 | exact (fun h_ => c14 h_.2) | exact (fun h_ => absurd h_.1 (by omega))), Bool.false_and, Bool.false_and])
 exact ⟨lp, congrArg Value.bool hF_.symm, fun h_ => Bool.noConfusion (hF_.symm.trans h_), M13.tk 1⟩
 refine zex 0 <| zbh <| zsp <| zre <| zo1 (.bool true) ?_
 exact ⟨lp, congrArg Value.bool (hr.trans (by rw [List.drop_eq_nil_of_le (by omega), stsV_nil])).symm, fun _ => rfl, M4.tk 1⟩
theorem tstsv_step (l : List MSt) (ih : ∀ x, x ∈ l → StsVOk Try.prog x.body ∧ StsVOk Try.prog x.els) : StsVOk Try.prog l := fun A c d c0 lo lp T w h0 h1 h2 h3 hR hT hs hI hll => tstsv_c l ih A c d c0 lo lp T w h0 h1 h2 h3 hR hT hs hI hll
theorem tstsv_x (x : MSt) : StsVOk Try.prog x.body ∧ StsVOk Try.prog x.els := MSt.ind (p := fun x => StsVOk Try.prog x.body ∧ StsVOk Try.prog x.els) (fun e hb hl => ⟨tstsv_step e.body hb, tstsv_step e.els hl⟩) x
theorem tstsv_all (l : List MSt) : StsVOk Try.prog l := tstsv_step l (fun x _ => tstsv_x x)
end Go.Proofs.Ytdcgcjibgihbbaa
namespace Go.Proofs.Ytdcgcjibgihbbaa
open Go.Mor
set_option maxHeartbeats 1000000 in
theorem tfunction_c (f : TFn) (T : List Res) (w : World) (hT : RO noS w (.all T)) (hs : SubXs T f.A f.body) (hI : f.In) :
    Calls Try.prog 28 #[(.agg #[(.string f.nm), (.bool f.wk), (.int .i64 f.pa), (.int .i64 f.lo), (.slice f.A f.body.length f.c)])] w (Ret fun v w' => v = .bool (fnV f) ∧ Mem noS w w' []) := by
 have hnl := hI.nm
 unfold LenOk at hnl
 refine zen 38 [(.agg #[(.string f.nm), (.bool f.wk), (.int .i64 f.pa), (.int .i64 f.lo), (.slice f.A f.body.length f.c)])] Try.func28 ?_
 have hM := Mem.init w
 refine zsr <| zbx hM 45 (.agg #[(.string f.nm), (.bool f.wk), (.int .i64 f.pa), (.int .i64 f.lo), (.slice f.A f.body.length f.c)]) [(.string f.nm), (.bool f.wk), (.int .i64 f.pa), (.int .i64 f.lo), (.slice f.A f.body.length f.c)] fun b1 w2 hb1 M3 => ?_
 replace M3 := M3.nf
 clear hM
 refine zpn 1 <| zfe <| zsq <| zsr <| zpn 1 <| zld ⟨b1, 0, none⟩ (.string f.nm) (blk_cell (M3.get 0 rfl) rfl) <| zcl (tname_c f.nm w2 hI.nm) ?_
 rintro _ w4 ⟨rfl, M5x⟩
 have M5 := M3.cl M5x
 refine zpn 2 ?_
 obtain ⟨B6, hB6⟩ : ∃ B : Bool, B = (!(decide (nameQ f.nm))) := ⟨_, rfl⟩
 refine zkp [(1, (pT b1 0)), (8, (.bool (!(decide (nameQ f.nm)))))] ?_
 rw [← hB6]
 have iB6 : B6 = true ↔ (¬ (nameQ f.nm)) := by rw [hB6]; simp only [notT, decide_eq_true_eq]
 clear hB6
 intro aC fr
 refine zpk 1 6 [9] fr (news := [(9, (cond (!B6) (pT b1 2) undef))]) (by cases B6 <;> kernel_rfl) ?_
 intro aC fr
 refine From_either (B := (!B6)) (d := (some 10)) (.int .i64 f.pa) fr (by cases B6 <;> kernel_rfl) (fun hB hh => ?_) ?_
 cases B6 <;> first | (exact absurd hB (by decide)) | skip
 have c6 : ¬ (¬ (nameQ f.nm)) := (fun h => Bool.noConfusion (iB6.2 h) : ¬ (¬ (nameQ f.nm)))
 exact From_ld (some 10) ⟨b1, 2, none⟩ fr (by kernel_rfl) (.int .i64 f.pa) (blk_cell (M5.get 0 rfl) rfl) hh
 intro aC fr
 refine zpk 3 10 [12, 13] fr (news := [(12, (.bool (B6 || decide ((f.pa : Int) < 0)))), (13, (.bool (B6 || decide ((f.pa : Int) < 0))))]) (by cases B6 <;> kernel_rfl) ?_
 intro aC fr
 obtain ⟨B15, hB15⟩ : ∃ B : Bool, B = (B6 || decide ((f.pa : Int) < 0)) := ⟨_, rfl⟩
 revert aC
 refine zkp [(1, (pT b1 0)), (13, (.bool (B6 || decide ((f.pa : Int) < 0))))] ?_
 rw [← hB15]
 have iB15 : B15 = true ↔ ((¬ (nameQ f.nm)) ∨ ((f.pa : Int) < 0)) := by rw [hB15]; simp only [Bool.or_eq_true, decide_eq_true_eq, iB6]
 clear hB15
 intro aC fr
 refine zpk 1 11 [14] fr (news := [(14, (cond (!B15) (pT b1 2) undef))]) (by cases B15 <;> kernel_rfl) ?_
 intro aC fr
 refine From_either (B := (!B15)) (d := (some 15)) (.int .i64 f.pa) fr (by cases B15 <;> kernel_rfl) (fun hB hh => ?_) ?_
 cases B15 <;> first | (exact absurd hB (by decide)) | skip
 have c15 : ¬ ((¬ (nameQ f.nm)) ∨ ((f.pa : Int) < 0)) := (fun h => Bool.noConfusion (iB15.2 h) : ¬ ((¬ (nameQ f.nm)) ∨ ((f.pa : Int) < 0)))
 exact From_ld (some 15) ⟨b1, 2, none⟩ fr (by kernel_rfl) (.int .i64 f.pa) (blk_cell (M5.get 0 rfl) rfl) hh
 intro aC fr
 refine zpk 3 15 [17, 18] fr (news := [(17, (.bool (B15 || decide ((f.pa : Int) > 16)))), (18, (.bool (B15 || decide ((f.pa : Int) > 16))))]) (by cases B15 <;> kernel_rfl) ?_
 intro aC fr
 obtain ⟨B24, hB24⟩ : ∃ B : Bool, B = (B15 || decide ((f.pa : Int) > 16)) := ⟨_, rfl⟩
 revert aC
 refine zkp [(1, (pT b1 0)), (18, (.bool (B15 || decide ((f.pa : Int) > 16))))] ?_
 rw [← hB24]
 have iB24 : B24 = true ↔ (((¬ (nameQ f.nm)) ∨ ((f.pa : Int) < 0)) ∨ ((f.pa : Int) > 16)) := by rw [hB24]; simp only [Bool.or_eq_true, decide_eq_true_eq, iB15]
 clear hB24
 intro aC fr
 refine zpk 1 16 [19] fr (news := [(19, (cond (!B24) (pT b1 3) undef))]) (by cases B24 <;> kernel_rfl) ?_
 intro aC fr
 refine From_either (B := (!B24)) (d := (some 20)) (.int .i64 f.lo) fr (by cases B24 <;> kernel_rfl) (fun hB hh => ?_) ?_
 cases B24 <;> first | (exact absurd hB (by decide)) | skip
 have c24 : ¬ (((¬ (nameQ f.nm)) ∨ ((f.pa : Int) < 0)) ∨ ((f.pa : Int) > 16)) := (fun h => Bool.noConfusion (iB24.2 h) : ¬ (((¬ (nameQ f.nm)) ∨ ((f.pa : Int) < 0)) ∨ ((f.pa : Int) > 16)))
 exact From_ld (some 20) ⟨b1, 3, none⟩ fr (by kernel_rfl) (.int .i64 f.lo) (blk_cell (M5.get 0 rfl) rfl) hh
 intro aC fr
 refine zpk 1 18 [21] fr (news := [(21, (cond (!B24) (pT b1 2) undef))]) (by cases B24 <;> kernel_rfl) ?_
 intro aC fr
 refine From_either (B := (!B24)) (d := (some 22)) (.int .i64 f.pa) fr (by cases B24 <;> kernel_rfl) (fun hB hh => ?_) ?_
 cases B24 <;> first | (exact absurd hB (by decide)) | skip
 have c24 : ¬ (((¬ (nameQ f.nm)) ∨ ((f.pa : Int) < 0)) ∨ ((f.pa : Int) > 16)) := (fun h => Bool.noConfusion (iB24.2 h) : ¬ (((¬ (nameQ f.nm)) ∨ ((f.pa : Int) < 0)) ∨ ((f.pa : Int) > 16)))
 exact From_ld (some 22) ⟨b1, 2, none⟩ fr (by kernel_rfl) (.int .i64 f.pa) (blk_cell (M5.get 0 rfl) rfl) hh
 intro aC fr
 refine zpk 3 22 [24, 25] fr (news := [(24, (.bool (B24 || decide ((f.lo : Int) < f.pa)))), (25, (.bool (B24 || decide ((f.lo : Int) < f.pa))))]) (by cases B24 <;> kernel_rfl) ?_
 intro aC fr
 obtain ⟨B37, hB37⟩ : ∃ B : Bool, B = (B24 || decide ((f.lo : Int) < f.pa)) := ⟨_, rfl⟩
 revert aC
 refine zkp [(1, (pT b1 0)), (25, (.bool (B24 || decide ((f.lo : Int) < f.pa))))] ?_
 rw [← hB37]
 have iB37 : B37 = true ↔ ((((¬ (nameQ f.nm)) ∨ ((f.pa : Int) < 0)) ∨ ((f.pa : Int) > 16)) ∨ ((f.lo : Int) < f.pa)) := by rw [hB37]; simp only [Bool.or_eq_true, decide_eq_true_eq, iB24]
 clear hB37
 intro aC fr
 refine zpk 1 23 [26] fr (news := [(26, (cond (!B37) (pT b1 3) undef))]) (by cases B37 <;> kernel_rfl) ?_
 intro aC fr
 refine From_either (B := (!B37)) (d := (some 27)) (.int .i64 f.lo) fr (by cases B37 <;> kernel_rfl) (fun hB hh => ?_) ?_
 cases B37 <;> first | (exact absurd hB (by decide)) | skip
 have c37 : ¬ ((((¬ (nameQ f.nm)) ∨ ((f.pa : Int) < 0)) ∨ ((f.pa : Int) > 16)) ∨ ((f.lo : Int) < f.pa)) := (fun h => Bool.noConfusion (iB37.2 h) : ¬ ((((¬ (nameQ f.nm)) ∨ ((f.pa : Int) < 0)) ∨ ((f.pa : Int) > 16)) ∨ ((f.lo : Int) < f.pa)))
 exact From_ld (some 27) ⟨b1, 3, none⟩ fr (by kernel_rfl) (.int .i64 f.lo) (blk_cell (M5.get 0 rfl) rfl) hh
 intro aC fr
 refine zpk 2 26 [29] fr (news := [(29, (.bool (B37 || decide ((f.lo : Int) > 2000))))]) (by cases B37 <;> kernel_rfl) ?_
 intro aC fr
 revert aC
 refine zfe <| zcP (B37 || decide ((f.lo : Int) > 2000)) (((((¬ (nameQ f.nm)) ∨ ((f.pa : Int) < 0)) ∨ ((f.pa : Int) > 16)) ∨ ((f.lo : Int) < f.pa)) ∨ ((f.lo : Int) > 2000)) (by simp only [Bool.or_eq_true, decide_eq_true_eq, iB37]) (fun c46 => ?_) (fun c46 => ?_)
 refine zsp <| zre <| zo1 (.bool false) ?_
 have M47 := M5.od [] 0
 exact ⟨congrArg Value.bool (by unfold fnV; rw [decide_eq_false (by unfold fnQ; (try simp only [decide_eq_true_eq, decide_eq_false_iff_not] at *); unfold nameQ at *; omega), Bool.false_and] : fnV f = false).symm, M47⟩
 refine zsk <| zsr <| zpn 1 <| zld ⟨b1, 3, none⟩ (.int .i64 f.lo) (blk_cell (M5.get 0 rfl) rfl) <| zpn 1 <| zbx M5 92 (.agg #[(.int .i64 f.lo), (.int .i64 0)]) [(.int .i64 f.lo), (.int .i64 0)] fun b48 w49 hb48 M50 => ?_
 replace M50 := M50.nf
 refine zpn 1 <| zfe <| zsr <| zpn 2 <| zld ⟨b1, 4, none⟩ (.slice f.A f.body.length f.c) (blk_cell (M50.get 0 rfl) rfl) <| zcl (tstsv_all f.body f.A f.c 0 b48 f.lo 0 T w49 (by omega) (by omega) (by omega) (by omega) (M50.get 1 rfl) (hT.but M50 1 rfl) hs hI.body hI.len) ?_
 rintro _ w53 ⟨q51, rfl, hq52, M54x⟩
 have M54 := M50.md 1 rfl M54x
 refine zpn 1 <| zfe <| zre <| zo1 (.bool (stsV f.lo 0 0 f.body)) ?_
 have hq_ : fnQ f := by unfold fnQ; (try simp only [decide_eq_true_eq, decide_eq_false_iff_not] at *); unfold nameQ at *; omega
 have M55 := M54.od [] 0
 exact ⟨congrArg Value.bool (by unfold fnV; rw [decide_eq_true hq_, Bool.true_and] : fnV f = _).symm, M55⟩
set_option maxHeartbeats 1000000 in
theorem twords_c (d : FDat) (w : World) (hR : RO noS w (.rds d.rA 2 (d.refs.map refCells))) (hI : LenOk d.nm.size ∧ LenOk d.words.length ∧ LenOk d.refs.length ∧ ∀ r, r ∈ d.refs → In64 r.1 ∧ LenOk r.2.size) :
    Calls Try.prog 29 #[(.agg #[(.string d.nm), (.bool d.wk), (.slice d.wA d.words.length d.wc), (.slice d.rA d.refs.length d.rc)])] w (Ret fun v w' => v = .bool (decide (datQ d)) ∧ Mem noS w w' []) := by
 have h1_ := hI.1
 have h2_ := hI.2.1
 have h3_ := hI.2.2.1
 unfold LenOk at h1_ h2_ h3_
 refine zen 47 [(.agg #[(.string d.nm), (.bool d.wk), (.slice d.wA d.words.length d.wc), (.slice d.rA d.refs.length d.rc)])] Try.func29 ?_
 have hM := Mem.init w
 refine zsr <| zbx hM 59 (.agg #[(.string d.nm), (.bool d.wk), (.slice d.wA d.words.length d.wc), (.slice d.rA d.refs.length d.rc)]) [(.string d.nm), (.bool d.wk), (.slice d.wA d.words.length d.wc), (.slice d.rA d.refs.length d.rc)] fun b1 w2 hb1 M3 => ?_
 replace M3 := M3.nf
 clear hM
 refine zpn 1 <| zfe <| zsr <| zmm M3 fun b4 w5 hb4 M6 => ?_
 replace M6 := M6.nf
 have M7 : Mem noS w w5 [.blk b1 59 [(.string d.nm), (.bool d.wk), (.slice d.wA d.words.length d.wc), (.slice d.rA d.refs.length d.rc)], .map b4 (inK (Value.int .i64) (vN []))] := M6.cast rfl
 refine zpn 1 <| zfe <| zsq <| zsr <| zpn 1 <| zld ⟨b1, 3, none⟩ (.slice d.rA d.refs.length d.rc) (blk_cell (M7.get 0 rfl) rfl) <| zpn 2 <| zfe <| zbk 0 ?_
 have M8 : Mem noS w w5 [.blk b1 59 [(.string d.nm), (.bool d.wk), (.slice d.wA d.words.length d.wc), (.slice d.rA d.refs.length d.rc)], .map b4 (inK (Value.int .i64) (vN (cntM ((d.refs.take 0).map (·.1)))))] := M7.cast rfl
 intro aC fr
 refine zlp (fun n_ a_ w_ => ∃ (j : Nat), n_ = d.refs.length - j ∧ Fr a_ 47 [(1, (pT b1 0)), (3, (.map (some b4))), (8, (.slice d.rA d.refs.length d.rc)), (9, (.int .i64 ((d.refs.length : Nat) : Int))), (10, (nV j))] ∧ Mem noS w w_ [.blk b1 59 [(.string d.nm), (.bool d.wk), (.slice d.wA d.words.length d.wc), (.slice d.rA d.refs.length d.rc)], .map b4 (inK (Value.int .i64) (vN (cntM ((d.refs.take j).map (·.1)))))] ∧ (j ≤ d.refs.length) ∧ (refsTo d j)) (n := _) ⟨0, rfl, fr.kp [1, 3, 8, 9, 10], M8, Nat.zero_le _, refsTo_zero d⟩ ?_
 clear fr aC M8; rintro n aC w11 ⟨j, rfl, fr, M12, hj, hr⟩
 revert aC
 refine zsp <| zsq <| zcD (((j : Int) : Int) < ((d.refs.length : Nat) : Int)) (fun c15 => ?_) (fun c15 => ?_)
 refine zsk <| zsq <| zbk 1 <| zsr ?_
 obtain ⟨r, hx⟩ := get_of (l := d.refs) (i := j) (by omega)
 have hrI := hI.2.2.2 r (List.mem_of_getElem? hx)
 have hrn := hrI.2
 unfold LenOk at hrn
 have hks : ((d.refs.take (j + 1)).map (·.1)) = ((d.refs.take j).map (·.1)) ++ [r.1] := by rw [List.take_add_one, hx]; simp
 have hct := cnt_twice (ks := ((d.refs.take j).map (·.1))) (k := r.1)
 rw [← hks] at hct
 have hcl := cnt_le ((d.refs.take j).map (·.1)) r.1
 have hkl_ : ((d.refs.take j).map (·.1)).length ≤ d.refs.length := by simp; omega
 obtain ⟨ad16, had17⟩ := rds_some (M12.ro hR) (i := j) (cs := refCells r) (by rw [List.getElem?_map, hx]; rfl)
 intro aC fr
 refine From_ixA (some 12) d.rA ad16 d.refs.length 2 (j : Int) fr (by kernel_rfl) had17 (by omega) (by omega) ?_
 intro aC fr
 revert aC
 refine zls ((ad16 : Addr).add (((j : Int)).toNat * 2)) [(.int .i64 r.1), (.string r.2)] (rds_cells (i := j) (M12.ro hR) had17 (by rw [List.getElem?_map, hx]; rfl)) ?_
 refine zal M12 96 [(.int .i64 0), (.string ⟨#[]⟩)] fun b22 w23 hb22 M24 => ?_
 replace M24 := M24.nf
 refine zss M24 2 [(.int .i64 r.1), (.string r.2)] rfl fun w25 M26 => ?_
 replace M26 := M26.nf
 refine zfe <| zsr <| zpn 2 <| zld ⟨b22, 0, none⟩ (.int .i64 r.1) (blk_cell (M26.get 2 rfl) rfl) <| zlv (ht := Try.underlying94) (intLaw Try.underlying3) r.1 (.int .i64 0) (M26.get 1 rfl) false (v := (.int .i64 ((lkp (cntM ((d.refs.take j).map (·.1))) r.1).getD 0))) (by rw [lkN_get]) <| zar (((lkp (cntM ((d.refs.take j).map (·.1))) r.1).getD 0) + 1) <| zmu (intLaw Try.underlying3) M26 1 r.1 (.int .i64 (((lkp (cntM ((d.refs.take j).map (·.1))) r.1).getD 0) + 1)) (l := (vN (cntM ((d.refs.take j).map (·.1))))) rfl Try.underlying94 fun w27 M28 => ?_
 replace M28 := M28.nf
 have M29 : Mem noS w w27 [.blk b1 59 [(.string d.nm), (.bool d.wk), (.slice d.wA d.words.length d.wc), (.slice d.rA d.refs.length d.rc)], .map b4 (inK (Value.int .i64) (vN (cntM ((d.refs.take (j + 1)).map (·.1))))), .blk b22 96 [(.int .i64 r.1), (.string r.2)]] := M28.cast (by rw [vN_cnt hks])
 refine zfe <| zsr <| zpn 1 <| zld ⟨b22, 1, none⟩ (.string r.2) (blk_cell (M29.get 2 rfl) rfl) <| zkp [(1, (pT b1 0)), (3, (.map (some b4))), (5, (pT b22 0)), (8, (.slice d.rA d.refs.length d.rc)), (9, (.int .i64 ((d.refs.length : Nat) : Int))), (10, (nV j)), (20, (.string r.2))] <| zcl (tname_c r.2 w27 hrn) ?_
 rintro _ w30 ⟨rfl, M31x⟩
 have M31 := M29.cl M31x
 refine zpn 2 ?_
 obtain ⟨B32, hB32⟩ : ∃ B : Bool, B = (!(decide (nameQ r.2))) := ⟨_, rfl⟩
 refine zkp [(1, (pT b1 0)), (3, (.map (some b4))), (5, (pT b22 0)), (8, (.slice d.rA d.refs.length d.rc)), (9, (.int .i64 ((d.refs.length : Nat) : Int))), (10, (nV j)), (23, (.bool (!(decide (nameQ r.2)))))] ?_
 rw [← hB32]
 have iB32 : B32 = true ↔ (¬ (nameQ r.2)) := by rw [hB32]; simp only [notT, decide_eq_true_eq]
 clear hB32
 intro aC fr
 refine zpk 1 6 [24] fr (news := [(24, (cond (!B32) (pT b22 0) undef))]) (by cases B32 <;> kernel_rfl) ?_
 intro aC fr
 refine From_either (B := (!B32)) (d := (some 25)) (.int .i64 r.1) fr (by cases B32 <;> kernel_rfl) (fun hB hh => ?_) ?_
 cases B32 <;> first | (exact absurd hB (by decide)) | skip
 have c32 : ¬ (¬ (nameQ r.2)) := (fun h => Bool.noConfusion (iB32.2 h) : ¬ (¬ (nameQ r.2)))
 exact From_ld (some 25) ⟨b22, 0, none⟩ fr (by kernel_rfl) (.int .i64 r.1) (blk_cell (M31.get 2 rfl) rfl) hh
 intro aC fr
 refine zpk 3 10 [27, 28] fr (news := [(27, (.bool (B32 || decide ((r.1 : Int) < 0)))), (28, (.bool (B32 || decide ((r.1 : Int) < 0))))]) (by cases B32 <;> kernel_rfl) ?_
 intro aC fr
 obtain ⟨B41, hB41⟩ : ∃ B : Bool, B = (B32 || decide ((r.1 : Int) < 0)) := ⟨_, rfl⟩
 revert aC
 refine zkp [(1, (pT b1 0)), (3, (.map (some b4))), (5, (pT b22 0)), (8, (.slice d.rA d.refs.length d.rc)), (9, (.int .i64 ((d.refs.length : Nat) : Int))), (10, (nV j)), (28, (.bool (B32 || decide ((r.1 : Int) < 0))))] ?_
 rw [← hB41]
 have iB41 : B41 = true ↔ ((¬ (nameQ r.2)) ∨ ((r.1 : Int) < 0)) := by rw [hB41]; simp only [Bool.or_eq_true, decide_eq_true_eq, iB32]
 clear hB41
 intro aC fr
 refine zpk 1 11 [29] fr (news := [(29, (cond (!B41) (pT b22 0) undef))]) (by cases B41 <;> kernel_rfl) ?_
 intro aC fr
 refine From_either (B := (!B41)) (d := (some 30)) (.int .i64 r.1) fr (by cases B41 <;> kernel_rfl) (fun hB hh => ?_) ?_
 cases B41 <;> first | (exact absurd hB (by decide)) | skip
 have c41 : ¬ ((¬ (nameQ r.2)) ∨ ((r.1 : Int) < 0)) := (fun h => Bool.noConfusion (iB41.2 h) : ¬ ((¬ (nameQ r.2)) ∨ ((r.1 : Int) < 0)))
 exact From_ld (some 30) ⟨b22, 0, none⟩ fr (by kernel_rfl) (.int .i64 r.1) (blk_cell (M31.get 2 rfl) rfl) hh
 intro aC fr
 refine zpk 1 13 [31] fr (news := [(31, (cond (!B41) (pT b1 2) undef))]) (by cases B41 <;> kernel_rfl) ?_
 intro aC fr
 refine From_either (B := (!B41)) (d := (some 32)) (.slice d.wA d.words.length d.wc) fr (by cases B41 <;> kernel_rfl) (fun hB hh => ?_) ?_
 cases B41 <;> first | (exact absurd hB (by decide)) | skip
 have c41 : ¬ ((¬ (nameQ r.2)) ∨ ((r.1 : Int) < 0)) := (fun h => Bool.noConfusion (iB41.2 h) : ¬ ((¬ (nameQ r.2)) ∨ ((r.1 : Int) < 0)))
 exact From_ld (some 32) ⟨b1, 2, none⟩ fr (by kernel_rfl) (.slice d.wA d.words.length d.wc) (blk_cell (M31.get 0 rfl) rfl) hh
 intro aC fr
 refine zpk 4 18 [35, 36] fr (news := [(35, (.bool (B41 || decide ((r.1 : Int) ≥ ((d.words.length : Nat) : Int))))), (36, (.bool (B41 || decide ((r.1 : Int) ≥ ((d.words.length : Nat) : Int)))))]) (by cases B41 <;> kernel_rfl) ?_
 intro aC fr
 obtain ⟨B54, hB54⟩ : ∃ B : Bool, B = (B41 || decide ((r.1 : Int) ≥ ((d.words.length : Nat) : Int))) := ⟨_, rfl⟩
 revert aC
 refine zkp [(1, (pT b1 0)), (3, (.map (some b4))), (5, (pT b22 0)), (8, (.slice d.rA d.refs.length d.rc)), (9, (.int .i64 ((d.refs.length : Nat) : Int))), (10, (nV j)), (36, (.bool (B41 || decide ((r.1 : Int) ≥ ((d.words.length : Nat) : Int)))))] ?_
 rw [← hB54]
 have iB54 : B54 = true ↔ (((¬ (nameQ r.2)) ∨ ((r.1 : Int) < 0)) ∨ ((r.1 : Int) ≥ ((d.words.length : Nat) : Int))) := by rw [hB54]; simp only [Bool.or_eq_true, decide_eq_true_eq, iB41]
 clear hB54
 intro aC fr
 refine zpk 2 20 [37, 38] fr (news := [(37, (cond (!B54) (.map (some b4)) undef)), (38, (cond (!B54) (pT b22 0) undef))]) (by cases B54 <;> kernel_rfl) ?_
 intro aC fr
 refine From_either (B := (!B54)) (d := (some 39)) (.int .i64 r.1) fr (by cases B54 <;> kernel_rfl) (fun hB hh => ?_) ?_
 cases B54 <;> first | (exact absurd hB (by decide)) | skip
 have c54 : ¬ (((¬ (nameQ r.2)) ∨ ((r.1 : Int) < 0)) ∨ ((r.1 : Int) ≥ ((d.words.length : Nat) : Int))) := (fun h => Bool.noConfusion (iB54.2 h) : ¬ (((¬ (nameQ r.2)) ∨ ((r.1 : Int) < 0)) ∨ ((r.1 : Int) ≥ ((d.words.length : Nat) : Int))))
 exact From_ld (some 39) ⟨b22, 0, none⟩ fr (by kernel_rfl) (.int .i64 r.1) (blk_cell (M31.get 2 rfl) rfl) hh
 intro aC fr
 cases B54
 have c54 : ¬ (((¬ (nameQ r.2)) ∨ ((r.1 : Int) < 0)) ∨ ((r.1 : Int) ≥ ((d.words.length : Nat) : Int))) := (fun h => Bool.noConfusion (iB54.2 h) : ¬ (((¬ (nameQ r.2)) ∨ ((r.1 : Int) < 0)) ∨ ((r.1 : Int) ≥ ((d.words.length : Nat) : Int))))
 revert aC
 refine zlv (ht := Try.underlying94) (intLaw Try.underlying3) r.1 (.int .i64 0) (M31.get 1 rfl) false (v := (.int .i64 ((lkp (cntM ((d.refs.take (j + 1)).map (·.1))) r.1).getD 0))) (by rw [lkN_get]) <| zpn 2 <| zfe <| zcD ((((lkp (cntM ((d.refs.take (j + 1)).map (·.1))) r.1).getD 0) : Int) > 1) (fun c61 => ?_) (fun c61 => ?_)
 refine zsp <| zre <| zbr <| zbr <| zo1 (.bool false) ?_
 have M62 := M31.od [] 0
 exact ⟨congrArg Value.bool (decide_eq_false (refs_no hx (by first | exact w_bad1 (by assumption) | exact w_bad2 hct (by assumption)))).symm, M62⟩
 refine zsk <| zrg <| zar ((j : Int) + 1) <| zpn 1 <| zfe ?_
 intro aC fr
 exact ⟨d.refs.length - (j + 1), by omega, j + 1, rfl, fr.kp [1, 3, 8, 9, 10], (M31.tk 2), by omega, refsTo_succ hr hx (w_ok hct (by assumption) (by assumption))⟩
 have c54 : (((¬ (nameQ r.2)) ∨ ((r.1 : Int) < 0)) ∨ ((r.1 : Int) ≥ ((d.words.length : Nat) : Int))) := iB54.1 rfl
 revert aC
 refine zpn 3 <| zfe <| zcT <| zsp <| zre <| zbr <| zbr <| zo1 (.bool false) ?_
 have M65 := M31.od [] 0
 exact ⟨congrArg Value.bool (decide_eq_false (refs_no hx (by first | exact w_bad1 (by assumption) | exact w_bad2 hct (by assumption)))).symm, M65⟩
 refine zex 0 <| zbh <| zsr <| zpn 1 <| zld ⟨b1, 0, none⟩ (.string d.nm) (blk_cell (M12.get 0 rfl) rfl) <| zcl (tname_c d.nm w11 hI.1) ?_
 rintro _ w66 ⟨rfl, M67x⟩
 have M67 := M12.cl M67x
 refine zpn 1 <| zfe <| zre <| zo1 (.bool (decide (nameQ d.nm))) ?_
 obtain rfl : j = d.refs.length := by omega
 have M68 := M67.od [] 0
 exact ⟨congrArg Value.bool (decide_eq_decide.2 ⟨fun h_ => datQ_iff.2 ⟨hr, h_⟩, fun h_ => h_.2⟩), M68⟩
theorem tcx_c (e : MEx) (ih : ∀ k, k ∈ e.kids → CxOk Try.prog k) (c0 : Nat) (n most : Int) (T : List Res) (w : World) (hn0 : 0 ≤ n) (hn : n + exN e ≤ 4611686018427387904) (hR : (cntB c0 n most).holds w) (hT : RO (cntB c0 n most).fp w (.all T)) (hs : SubE T e) (hI : exI e) :
    Calls Try.prog 66 #[(pT c0 0), (.agg #[(.int .i64 e.op), (.int .i64 e.n), (.string e.nm), (.slice e.A e.kids.length e.c)])] w (Ret fun v w' => v = .tuple #[] ∧ ∃ n', Cnt most n (exN e) n' ∧ Mem (cntB c0 n most).fp w w' [cntB c0 n' most]) := by
 have hkl := hI.own.kids
 unfold LenOk at hkl
 rw [exN_eq] at hn
 refine zen 37 [(pT c0 0), (.agg #[(.int .i64 e.op), (.int .i64 e.n), (.string e.nm), (.slice e.A e.kids.length e.c)])] Try.func66 ?_
 have hM := Mem.initS hR
 refine zsr <| zbx hM 53 (.agg #[(.int .i64 e.op), (.int .i64 e.n), (.string e.nm), (.slice e.A e.kids.length e.c)]) [(.int .i64 e.op), (.int .i64 e.n), (.string e.nm), (.slice e.A e.kids.length e.c)] fun b1 w2 hb1 M3 => ?_
 replace M3 := M3.nf
 clear hM
 refine zfe <| zsr <| zpn 3 <| zld ⟨c0, 0, none⟩ (.int .i64 n) (blk_cell (M3.get 0 rfl) rfl) <| zar (n + 1) <| zpn 2 <| zsb (ho := (by simp)) M3 0 0 (.int .i64 (n + 1)) rfl fun w4 M5 => ?_
 replace M5 := M5.nf
 refine zfe <| zsp <| zbk 0 ?_
 intro aC fr
 refine zlp (fun n_ a_ w_ => ∃ (j : Nat) (nj : Int), n_ = e.kids.length - j ∧ Fr a_ 37 [(0, (pT c0 0)), (3, (pT b1 0)), (4, (nV j))] ∧ Mem (cntB c0 n most).fp w w_ [.blk c0 86 [(.int .i64 nj), (.int .i64 most)], .blk b1 53 [(.int .i64 e.op), (.int .i64 e.n), (.string e.nm), (.slice e.A e.kids.length e.c)]] ∧ (j ≤ e.kids.length) ∧ (Cnt most (n + 1) (exsN (e.kids.take j)) nj)) (n := _) ⟨0, (n + 1), rfl, fr.kp [0, 3, 4], M5, Nat.zero_le _, by rw [List.take_zero]; exact Cnt.zero⟩ ?_
 clear fr aC M5; rintro n aC w8 ⟨j, nj, rfl, fr, M9, hj, hc⟩
 revert aC
 refine zsq <| zsq ?_
 have hcb := hc.le
 have htk := exsN_take_le e.kids j
 obtain ⟨B12, hB12⟩ : ∃ B : Bool, B = decide ((j : Int) < ((e.kids.length : Nat) : Int)) := ⟨_, rfl⟩
 cases B12
 have c12 : ¬ ((j : Int) < ((e.kids.length : Nat) : Int)) := of_decide_eq_false hB12.symm
 have hcb := hc.le
 have htk := exsN_take_le e.kids j
 refine zkp [(0, (pT c0 0)), (3, (pT b1 0)), (4, (nV j))] ?_
 intro aC fr
 refine zdt 14 (N := 37) (env0 := [(0, (pT c0 0)), (3, (pT b1 0)), (4, (nV j))]) (specAt [.det (nV j), .det (pT b1 3), .det (.slice e.A e.kids.length e.c), .det (.int .i64 ((e.kids.length : Nat) : Int)), .det (.bool false), .det (.bool false), dU, dU, dU, dU, dU, dU, dU, dU]) fr (la (la (la (la (la (la (la (la (la (la (la (la (la (la lz dP) dP) (dL ⟨b1, 3, none⟩ (.slice e.A e.kids.length e.c) fun w_ hK => (blk_cell ((M9.then_ hK).get 1 rfl) rfl))) dP) (dC (decide ((j : Int) < ((e.kids.length : Nat) : Int))) hB12)) dP) dK) dK) dK) dK) dK) dK) dK) dK) ?_
 intro aC w17 vs hK hv fr
 revert aC; refine zkp [(0, (pT c0 0)), (3, (pT b1 0)), (4, (nV j)), (17, (.bool false))] ?_
 have M18 := M9.then_ hK
 clear hK hv fr aC M9; clear vs
 refine zpn 2 <| zfe <| zcF <| zex 0 <| zbh <| zo0 ?_
 exact ⟨rfl, nj, (Cnt.one.trans (cnt_exs hc (by omega))).cast (by rw [exN_eq]; omega), M18.tk 1⟩
 have c12 : (j : Int) < ((e.kids.length : Nat) : Int) := of_decide_eq_true hB12.symm
 have hcb := hc.le
 have htk := exsN_take_le e.kids j
 refine zkp [(0, (pT c0 0)), (3, (pT b1 0)), (4, (nV j))] ?_
 intro aC fr
 refine zdt 14 (N := 37) (env0 := [(0, (pT c0 0)), (3, (pT b1 0)), (4, (nV j))]) (specAt [.det (nV j), .det (pT b1 3), .det (.slice e.A e.kids.length e.c), .det (.int .i64 ((e.kids.length : Nat) : Int)), .det (.bool true), .det (.bool true), .det (pT c0 0), .det (pT c0 0), .det (pT c0 0), .det (.int .i64 nj), .det (pT c0 0), .det (pT c0 0), .det (pT c0 1), .det (.int .i64 most)]) fr (la (la (la (la (la (la (la (la (la (la (la (la (la (la lz dP) dP) (dL ⟨b1, 3, none⟩ (.slice e.A e.kids.length e.c) fun w_ hK => (blk_cell ((M9.then_ hK).get 1 rfl) rfl))) dP) (dC (decide ((j : Int) < ((e.kids.length : Nat) : Int))) hB12)) dP) dP) dP) dP) (dL ⟨c0, 0, none⟩ (.int .i64 nj) fun w_ hK => (blk_cell ((M9.then_ hK).get 0 rfl) rfl))) dP) dP) dP) (dL ⟨c0, 1, none⟩ (.int .i64 most) fun w_ hK => (blk_cell ((M9.then_ hK).get 0 rfl) rfl))) ?_
 intro aC w23 vs hK hv fr
 revert aC; refine zkp [(0, (pT c0 0)), (3, (pT b1 0)), (4, (nV j)), (17, (.bool true)), (21, (.int .i64 nj)), (25, (.int .i64 most))] ?_
 have M24 := M9.then_ hK
 clear hK hv fr aC M9; clear vs
 refine zpn 2 <| zfe <| zcD ((nj : Int) ≤ most) (fun c25 => ?_) (fun c25 => ?_)
 refine zsk <| zsq <| zbk 1 <| zrg ?_
 obtain ⟨k, hk⟩ := get_of (l := e.kids) (i := j) (by omega)
 have hkm := List.mem_of_getElem? hk
 have htk2 := exsN_take hk
 have htk3 := exsN_take_le e.kids (j + 1)
 refine zpn 2 <| zld ⟨b1, 3, none⟩ (.slice e.A e.kids.length e.c) (blk_cell (M24.get 1 rfl) rfl) <| zpn 1 ?_
 obtain ⟨ad26, had27⟩ := rds_some (M24.ro (hT.sub hs.kids.1)) (cs := k.cells) (i := j) (by rw [List.getElem?_map, hk]; rfl)
 intro aC fr
 refine From_ixA (some 34) e.A ad26 e.kids.length 4 (j : Int) fr (by kernel_rfl) had27 (by omega) (by omega) ?_
 intro aC fr
 revert aC
 refine zls ((ad26 : Addr).add (((j : Int)).toNat * 4)) [(.int .i64 k.op), (.int .i64 k.n), (.string k.nm), (.slice k.A k.kids.length k.c)] (rds_cells (i := j) (M24.ro (hT.sub hs.kids.1)) had27 (by rw [List.getElem?_map, hk]; rfl)) ?_
 refine zcl (ih k hkm c0 nj most T w23 (by omega) (by omega) (M24.get 0 rfl) (hT.but M24 0 rfl) (hs.kids.2 k hkm) (exsI_mem hI.kids hkm)) ?_
 rintro _ w33 ⟨rfl, n32, hcn, M34x⟩
 have M34 := M24.md 0 rfl M34x
 refine zfe <| zrg <| zpn 1 <| zar ((j : Int) + 1) <| zpn 1 <| zfe ?_
 intro aC fr
 exact ⟨e.kids.length - (j + 1), by omega, j + 1, n32, rfl, fr.kp [0, 3, 4], M34, by omega, (hc.trans hcn).cast (by rw [exsN_take hk]; omega)⟩
 refine zex 0 <| zbh <| zo0 ?_
 exact ⟨rfl, nj, (Cnt.one.trans (cnt_exs hc (by omega))).cast (by rw [exN_eq]; omega), M24.tk 1⟩
theorem tcx_all (e : MEx) : CxOk Try.prog e := MEx.ind (fun e ih c0 n most T w h0 h1 hR hT hs hI => tcx_c e ih c0 n most T w h0 h1 hR hT hs hI) e
set_option maxHeartbeats 1000000 in
theorem tcs_c (l : List MSt) (ih : ∀ x, x ∈ l → CsOk Try.prog x.body ∧ CsOk Try.prog x.els) (A : Option Addr) (c : Nat) (c0 : Nat) (n most : Int) (T : List Res) (w : World) (hn0 : 0 ≤ n) (hn : n + stsN l ≤ 4611686018427387904) (hR : (cntB c0 n most).holds w) (hT : RO (cntB c0 n most).fp w (.all T)) (hs : SubXs T A l) (hI : stsI l) (hll : LenOk l.length) :
    Calls Try.prog 46 #[(pT c0 0), (.slice A l.length c)] w (Ret fun v w' => v = .tuple #[] ∧ ∃ n', Cnt most n (stsN l) n' ∧ Mem (cntB c0 n most).fp w w' [cntB c0 n' most]) := by
 unfold LenOk at hll
 refine zen 75 [(pT c0 0), (.slice A l.length c)] Try.func46 ?_
 have hM := Mem.initS hR
 refine zsp <| zbk 0 ?_
 intro aC fr
 refine zlp (fun n_ a_ w_ => ∃ (j : Nat) (nj : Int), n_ = l.length - j ∧ Fr a_ 75 [(0, (pT c0 0)), (1, (.slice A l.length c)), (4, (nV j))] ∧ Mem (cntB c0 n most).fp w w_ [.blk c0 86 [(.int .i64 nj), (.int .i64 most)]] ∧ (j ≤ l.length) ∧ (Cnt most n (stsN (l.take j)) nj)) (n := _) ⟨0, n, rfl, fr.kp [0, 1, 4], hM, Nat.zero_le _, by rw [List.take_zero]; exact Cnt.zero⟩ ?_
 clear fr aC hM; rintro n aC w3 ⟨j, nj, rfl, fr, M4, hj, hc⟩
 revert aC
 refine zsq <| zsq ?_
 have hcb := hc.le
 have htk := stsN_take_le l j
 obtain ⟨B7, hB7⟩ : ∃ B : Bool, B = decide ((j : Int) < ((l.length : Nat) : Int)) := ⟨_, rfl⟩
 cases B7
 have c7 : ¬ ((j : Int) < ((l.length : Nat) : Int)) := of_decide_eq_false hB7.symm
 have hcb := hc.le
 have htk := stsN_take_le l j
 refine zkp [(0, (pT c0 0)), (1, (.slice A l.length c)), (4, (nV j))] ?_
 intro aC fr
 refine zdt 13 (N := 75) (env0 := [(0, (pT c0 0)), (1, (.slice A l.length c)), (4, (nV j))]) (specAt [.det (nV j), .det (.slice A l.length c), .det (.int .i64 ((l.length : Nat) : Int)), .det (.bool false), .det (.bool false), dU, dU, dU, dU, dU, dU, dU, dU]) fr (la (la (la (la (la (la (la (la (la (la (la (la (la lz dP) dP) dP) (dC (decide ((j : Int) < ((l.length : Nat) : Int))) hB7)) dP) dK) dK) dK) dK) dK) dK) dK) dK) ?_
 intro aC w12 vs hK hv fr
 revert aC; refine zkp [(0, (pT c0 0)), (1, (.slice A l.length c)), (4, (nV j)), (10, (.bool false))] ?_
 have M13 := M4.then_ hK
 clear hK hv fr aC M4; clear vs
 refine zpn 2 <| zfe <| zcF <| zex 0 <| zbh <| zo0 ?_
 exact ⟨rfl, nj, cnt_sts hc (by omega), M13.tk 1⟩
 have c7 : (j : Int) < ((l.length : Nat) : Int) := of_decide_eq_true hB7.symm
 have hcb := hc.le
 have htk := stsN_take_le l j
 refine zkp [(0, (pT c0 0)), (1, (.slice A l.length c)), (4, (nV j))] ?_
 intro aC fr
 refine zdt 13 (N := 75) (env0 := [(0, (pT c0 0)), (1, (.slice A l.length c)), (4, (nV j))]) (specAt [.det (nV j), .det (.slice A l.length c), .det (.int .i64 ((l.length : Nat) : Int)), .det (.bool true), .det (.bool true), .det (pT c0 0), .det (pT c0 0), .det (pT c0 0), .det (.int .i64 nj), .det (pT c0 0), .det (pT c0 0), .det (pT c0 1), .det (.int .i64 most)]) fr (la (la (la (la (la (la (la (la (la (la (la (la (la lz dP) dP) dP) (dC (decide ((j : Int) < ((l.length : Nat) : Int))) hB7)) dP) dP) dP) dP) (dL ⟨c0, 0, none⟩ (.int .i64 nj) fun w_ hK => (blk_cell ((M4.then_ hK).get 0 rfl) rfl))) dP) dP) dP) (dL ⟨c0, 1, none⟩ (.int .i64 most) fun w_ hK => (blk_cell ((M4.then_ hK).get 0 rfl) rfl))) ?_
 intro aC w18 vs hK hv fr
 revert aC; refine zkp [(0, (pT c0 0)), (1, (.slice A l.length c)), (4, (nV j)), (10, (.bool true)), (14, (.int .i64 nj)), (18, (.int .i64 most))] ?_
 have M19 := M4.then_ hK
 clear hK hv fr aC M4; clear vs
 refine zpn 2 <| zfe <| zcD ((nj : Int) ≤ most) (fun c20 => ?_) (fun c20 => ?_)
 refine zsk <| zsq <| zbk 1 <| zsr ?_
 obtain ⟨x, hx⟩ := get_of (l := l) (i := j) (by omega)
 have hxm := List.mem_of_getElem? hx
 have hxI := stsI_mem hI hxm
 have htk2 := stsN_take hx
 have htk3 := stsN_take_le l (j + 1)
 rw [stN_eq] at htk2
 have h1_ := hxI.own.exprs
 unfold LenOk at h1_
 refine zpn 3 <| zld ⟨c0, 0, none⟩ (.int .i64 nj) (blk_cell (M19.get 0 rfl) rfl) <| zar (nj + 1) <| zpn 2 <| zsb (ho := (by simp)) M19 0 0 (.int .i64 (nj + 1)) rfl fun w21 M22 => ?_
 replace M22 := M22.nf
 refine zfe <| zsq <| zsp <| zbk 2 ?_
 intro aC fr
 refine zlp (fun n_ a_ w_ => ∃ (k : Nat) (nk : Int), n_ = x.exprs.length - k ∧ Fr a_ 75 [(0, (pT c0 0)), (1, (.slice A l.length c)), (4, (nV j)), (5, (nV k))] ∧ Mem (cntB c0 n most).fp w w_ [.blk c0 86 [(.int .i64 nk), (.int .i64 most)]] ∧ (k ≤ x.exprs.length) ∧ (Cnt most (nj + 1) (exsN (x.exprs.take k)) nk)) (n := _) ⟨0, (nj + 1), rfl, fr.kp [0, 1, 4, 5], M22, Nat.zero_le _, by rw [List.take_zero]; exact Cnt.zero⟩ ?_
 clear fr aC M22; rintro n aC w25 ⟨k, nk, rfl, fr, M26, hk, hce⟩
 revert aC
 refine zsq <| zsq ?_
 have hceb := hce.le
 have htke := exsN_take_le x.exprs k
 obtain ⟨ad29, rfl⟩ := rds_some (M26.ro (hT.sub hs.1)) (cs := x.cells) (i := j) (by rw [List.getElem?_map, hx]; rfl)
 have hceb := hce.le
 have htke := exsN_take_le x.exprs k
 obtain ⟨B30, hB30⟩ : ∃ B : Bool, B = decide ((k : Int) < ((x.exprs.length : Nat) : Int)) := ⟨_, rfl⟩
 cases B30
 have c30 : ¬ ((k : Int) < ((x.exprs.length : Nat) : Int)) := of_decide_eq_false hB30.symm
 have hceb := hce.le
 have htke := exsN_take_le x.exprs k
 refine zkp [(0, (pT c0 0)), (1, (.slice (some ad29) l.length c)), (4, (nV j)), (5, (nV k))] ?_
 intro aC fr
 refine zdt 17 (N := 75) (env0 := [(0, (pT c0 0)), (1, (.slice (some ad29) l.length c)), (4, (nV j)), (5, (nV k))]) (specAt [.det (nV k), .det (.slice (some ad29) l.length c), .det (nV j), .det (.pointer (some ((ad29 : Addr).add (((j : Int)).toNat * 5)))), .det (.pointer (some (((ad29 : Addr).add (((j : Int)).toNat * 5)).add 2))), .det (.slice x.eA x.exprs.length x.ec), .det (.int .i64 ((x.exprs.length : Nat) : Int)), .det (.bool false), .det (.bool false), dU, dU, dU, dU, dU, dU, dU, dU]) fr (la (la (la (la (la (la (la (la (la (la (la (la (la (la (la (la (la lz dP) dP) dP) (dI ad29 l.length 5 (j : Int))) dP) (dL (((ad29 : Addr).add (((j : Int)).toNat * 5)).add 2) (.slice x.eA x.exprs.length x.ec) fun w_ hK => (rds_get ((M26.then_ hK).ro (hT.sub hs.1)) rfl (i := j) (cs := x.cells) (by rw [List.getElem?_map, hx]; rfl) 2 _ rfl))) dP) (dC (decide ((k : Int) < ((x.exprs.length : Nat) : Int))) hB30)) dP) dK) dK) dK) dK) dK) dK) dK) dK) ?_
 intro aC w35 vs hK hv fr
 revert aC; refine zkp [(0, (pT c0 0)), (1, (.slice (some ad29) l.length c)), (4, (nV j)), (5, (nV k)), (38, (.bool false))] ?_
 have M36 := M26.then_ hK
 clear hK hv fr aC M26; clear vs
 refine zpn 2 <| zfe <| zcF <| zex 2 <| zbh <| zsr ?_
 have hcE := (cnt_exs hce (by omega)).le
 refine zpn 3 <| zix ad29 l.length 5 (j : Int) <| zpn 1 ?_
 refine zld (((ad29 : Addr).add (((j : Int)).toNat * 5)).add 3) (.slice x.bA x.body.length x.bc) (rds_get (M36.ro (hT.sub hs.1)) rfl (i := j) (cs := x.cells) (by rw [List.getElem?_map, hx]; rfl) 3 _ rfl) ?_
 refine zcl ((ih x hxm).1 x.bA x.bc c0 nk most T w35 (by omega) (by omega) (M36.get 0 rfl) (hT.but M36 0 rfl) (hs.2 x hxm).body hxI.body hxI.own.body) ?_
 rintro _ w38 ⟨rfl, n37, hcb_, M39x⟩
 have M39 := M36.md 0 rfl M39x
 have hcb_b := hcb_.le
 refine zfe <| zrg <| zpn 3 <| zix ad29 l.length 5 (j : Int) <| zpn 1 ?_
 refine zld (((ad29 : Addr).add (((j : Int)).toNat * 5)).add 4) (.slice x.lA x.els.length x.lc) (rds_get (M39.ro (hT.sub hs.1)) rfl (i := j) (cs := x.cells) (by rw [List.getElem?_map, hx]; rfl) 4 _ rfl) ?_
 refine zcl ((ih x hxm).2 x.lA x.lc c0 n37 most T w38 (by omega) (by omega) (M39.get 0 rfl) (hT.but M39 0 rfl) (hs.2 x hxm).els hxI.els hxI.own.els) ?_
 rintro _ w41 ⟨rfl, n40, hcl_, M42x⟩
 have M42 := M39.md 0 rfl M42x
 have hcl_b := hcl_.le
 refine zfe <| zrg <| zpn 1 <| zar ((j : Int) + 1) <| zkp [(0, (pT c0 0)), (1, (.slice (some ad29) l.length c)), (22, (.int .i64 ((j : Int) + 1)))] <| zpn 1 <| zfe ?_
 intro aC fr
 exact ⟨l.length - (j + 1), by omega, j + 1, n40, rfl, fr.kp [0, 1, 4], M42, by omega, ((((hc.trans Cnt.one).trans (cnt_exs hce (by omega))).trans hcb_).trans hcl_).cast (by rw [stsN_take hx, stN_eq]; omega)⟩
 have c30 : (k : Int) < ((x.exprs.length : Nat) : Int) := of_decide_eq_true hB30.symm
 have hceb := hce.le
 have htke := exsN_take_le x.exprs k
 refine zkp [(0, (pT c0 0)), (1, (.slice (some ad29) l.length c)), (4, (nV j)), (5, (nV k))] ?_
 intro aC fr
 refine zdt 17 (N := 75) (env0 := [(0, (pT c0 0)), (1, (.slice (some ad29) l.length c)), (4, (nV j)), (5, (nV k))]) (specAt [.det (nV k), .det (.slice (some ad29) l.length c), .det (nV j), .det (.pointer (some ((ad29 : Addr).add (((j : Int)).toNat * 5)))), .det (.pointer (some (((ad29 : Addr).add (((j : Int)).toNat * 5)).add 2))), .det (.slice x.eA x.exprs.length x.ec), .det (.int .i64 ((x.exprs.length : Nat) : Int)), .det (.bool true), .det (.bool true), .det (pT c0 0), .det (pT c0 0), .det (pT c0 0), .det (.int .i64 nk), .det (pT c0 0), .det (pT c0 0), .det (pT c0 1), .det (.int .i64 most)]) fr (la (la (la (la (la (la (la (la (la (la (la (la (la (la (la (la (la lz dP) dP) dP) (dI ad29 l.length 5 (j : Int))) dP) (dL (((ad29 : Addr).add (((j : Int)).toNat * 5)).add 2) (.slice x.eA x.exprs.length x.ec) fun w_ hK => (rds_get ((M26.then_ hK).ro (hT.sub hs.1)) rfl (i := j) (cs := x.cells) (by rw [List.getElem?_map, hx]; rfl) 2 _ rfl))) dP) (dC (decide ((k : Int) < ((x.exprs.length : Nat) : Int))) hB30)) dP) dP) dP) dP) (dL ⟨c0, 0, none⟩ (.int .i64 nk) fun w_ hK => (blk_cell ((M26.then_ hK).get 0 rfl) rfl))) dP) dP) dP) (dL ⟨c0, 1, none⟩ (.int .i64 most) fun w_ hK => (blk_cell ((M26.then_ hK).get 0 rfl) rfl))) ?_
 intro aC w49 vs hK hv fr
 revert aC; refine zkp [(0, (pT c0 0)), (1, (.slice (some ad29) l.length c)), (4, (nV j)), (5, (nV k)), (38, (.bool true)), (42, (.int .i64 nk)), (46, (.int .i64 most))] ?_
 have M50 := M26.then_ hK
 clear hK hv fr aC M26; clear vs
 refine zpn 2 <| zfe <| zcD ((nk : Int) ≤ most) (fun c51 => ?_) (fun c51 => ?_)
 refine zsk <| zsq <| zbk 3 <| zrg ?_
 obtain ⟨y, hy⟩ := get_of (l := x.exprs) (i := k) (by omega)
 have hym := List.mem_of_getElem? hy
 have htk4 := exsN_take hy
 have htk5 := exsN_take_le x.exprs (k + 1)
 refine zpn 3 <| zix ad29 l.length 5 (j : Int) <| zpn 1 ?_
 refine zld (((ad29 : Addr).add (((j : Int)).toNat * 5)).add 2) (.slice x.eA x.exprs.length x.ec) (rds_get (M50.ro (hT.sub hs.1)) rfl (i := j) (cs := x.cells) (by rw [List.getElem?_map, hx]; rfl) 2 _ rfl) ?_
 refine zpn 1 ?_
 obtain ⟨ad52, had53⟩ := rds_some (M50.ro (hT.sub (hs.2 x hxm).exprs.1)) (cs := y.cells) (i := k) (by rw [List.getElem?_map, hy]; rfl)
 intro aC fr
 refine From_ixA (some 58) x.eA ad52 x.exprs.length 4 (k : Int) fr (by kernel_rfl) had53 (by omega) (by omega) ?_
 intro aC fr
 revert aC
 refine zls ((ad52 : Addr).add (((k : Int)).toNat * 4)) [(.int .i64 y.op), (.int .i64 y.n), (.string y.nm), (.slice y.A y.kids.length y.c)] (rds_cells (i := k) (M50.ro (hT.sub (hs.2 x hxm).exprs.1)) had53 (by rw [List.getElem?_map, hy]; rfl)) ?_
 refine zcl (tcx_all y c0 nk most T w49 (by omega) (by omega) (M50.get 0 rfl) (hT.but M50 0 rfl) ((hs.2 x hxm).exprs.2 y hym) (exsI_mem hxI.exprs hym)) ?_
 rintro _ w59 ⟨rfl, n58, hcn, M60x⟩
 have M60 := M50.md 0 rfl M60x
 refine zfe <| zrg <| zpn 1 <| zar ((k : Int) + 1) <| zpn 1 <| zfe ?_
 intro aC fr
 exact ⟨x.exprs.length - (k + 1), by omega, k + 1, n58, rfl, fr.kp [0, 1, 4, 5], M60, by omega, (hce.trans hcn).cast (by rw [exsN_take hy]; omega)⟩
 refine zex 2 <| zbh <| zsr ?_
 have hcE := (cnt_exs hce (by omega)).le
 refine zpn 3 <| zix ad29 l.length 5 (j : Int) <| zpn 1 ?_
 refine zld (((ad29 : Addr).add (((j : Int)).toNat * 5)).add 3) (.slice x.bA x.body.length x.bc) (rds_get (M50.ro (hT.sub hs.1)) rfl (i := j) (cs := x.cells) (by rw [List.getElem?_map, hx]; rfl) 3 _ rfl) ?_
 refine zcl ((ih x hxm).1 x.bA x.bc c0 nk most T w49 (by omega) (by omega) (M50.get 0 rfl) (hT.but M50 0 rfl) (hs.2 x hxm).body hxI.body hxI.own.body) ?_
 rintro _ w64 ⟨rfl, n63, hcb_, M65x⟩
 have M65 := M50.md 0 rfl M65x
 have hcb_b := hcb_.le
 refine zfe <| zrg <| zpn 3 <| zix ad29 l.length 5 (j : Int) <| zpn 1 ?_
 refine zld (((ad29 : Addr).add (((j : Int)).toNat * 5)).add 4) (.slice x.lA x.els.length x.lc) (rds_get (M65.ro (hT.sub hs.1)) rfl (i := j) (cs := x.cells) (by rw [List.getElem?_map, hx]; rfl) 4 _ rfl) ?_
 refine zcl ((ih x hxm).2 x.lA x.lc c0 n63 most T w64 (by omega) (by omega) (M65.get 0 rfl) (hT.but M65 0 rfl) (hs.2 x hxm).els hxI.els hxI.own.els) ?_
 rintro _ w67 ⟨rfl, n66, hcl_, M68x⟩
 have M68 := M65.md 0 rfl M68x
 have hcl_b := hcl_.le
 refine zfe <| zrg <| zpn 1 <| zar ((j : Int) + 1) <| zkp [(0, (pT c0 0)), (1, (.slice (some ad29) l.length c)), (22, (.int .i64 ((j : Int) + 1)))] <| zpn 1 <| zfe ?_
 intro aC fr
 exact ⟨l.length - (j + 1), by omega, j + 1, n66, rfl, fr.kp [0, 1, 4], M68, by omega, ((((hc.trans Cnt.one).trans (cnt_exs hce (by omega))).trans hcb_).trans hcl_).cast (by rw [stsN_take hx, stN_eq]; omega)⟩
 refine zex 0 <| zbh <| zo0 ?_
 exact ⟨rfl, nj, cnt_sts hc (by omega), M19.tk 1⟩
theorem tcs_step (l : List MSt) (ih : ∀ x, x ∈ l → CsOk Try.prog x.body ∧ CsOk Try.prog x.els) : CsOk Try.prog l := fun A c c0 n most T w h0 h1 hR hT hs hI hll => tcs_c l ih A c c0 n most T w h0 h1 hR hT hs hI hll
theorem tcs_x (x : MSt) : CsOk Try.prog x.body ∧ CsOk Try.prog x.els := MSt.ind (p := fun x => CsOk Try.prog x.body ∧ CsOk Try.prog x.els) (fun e hb hl => ⟨tcs_step e.body hb, tcs_step e.els hl⟩) x
theorem tcs_all (l : List MSt) : CsOk Try.prog l := tcs_step l (fun x _ => tcs_x x)
end Go.Proofs.Ytdcgcjibgihbbaa

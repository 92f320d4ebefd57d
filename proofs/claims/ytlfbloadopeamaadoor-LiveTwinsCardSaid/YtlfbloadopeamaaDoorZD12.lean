/-
  Texts of the proof, part 12.
-/
import Derived.Test.YtlfbloadopeamaaDoorZD11
import Derived.Test.YtlfbloadopeamaaDoorChecked
namespace Go.Proofs.YtlfbloadopeamaaDoor
open Go.Mor Go.ChangeShapes Go.WideShapes Go.ChangeAt Go.RowKit Go.Deep
theorem Tryd.own : ownKnob Tryd.prog.godebug = none := by kernel_rfl
theorem Tryd.laidOut : laidOutB Tryd.prog = true := by kernel_rfl
theorem array5 {α : Type} {cs : Array α} (h : cs.size = 5) : ∃ c0 c1 c2 c3 c4, cs = #[c0, c1, c2, c3, c4] := by
  obtain ⟨l⟩ := cs
  match l, h with
  | [c0, c1, c2, c3, c4], _ => exact ⟨c0, c1, c2, c3, c4, rfl⟩
theorem list2 {α : Type} {cs : List α} (h : cs.length = 2) : ∃ c0 c1, cs = [c0, c1] := by
  match cs, h with
  | [c0, c1], _ => exact ⟨c0, c1, rfl⟩
theorem list5 {α : Type} {cs : List α} (h : cs.length = 5) : ∃ c0 c1 c2 c3 c4, cs = [c0, c1, c2, c3, c4] := by
  match cs, h with
  | [c0, c1, c2, c3, c4], _ => exact ⟨c0, c1, c2, c3, c4, rfl⟩
theorem list6 {α : Type} {cs : List α} (h : cs.length = 6) : ∃ c0 c1 c2 c3 c4 c5, cs = [c0, c1, c2, c3, c4, c5] := by
  match cs, h with
  | [c0, c1, c2, c3, c4, c5], _ => exact ⟨c0, c1, c2, c3, c4, c5, rfl⟩
def Reach_ {H : Type} (t : TypeId) (d : DataW H) : Prop := ∀ n, n ∈ d.weights Tryd.prog t → n ≤ reachBytes
theorem len_ok {a k : Nat} (hk : 0 < k) (h : a * k ≤ reachBytes) : LenOk a := by
  have h1 : a * 1 ≤ a * k := Nat.mul_le_mul_left a hk
  have h2 := reachBytes_lt
  unfold LenOk
  omega
theorem weights_all {H : Type} {e : TypeId} {l : List (DataW H)} {d : DataW H} (h : d ∈ l) : ∀ n, n ∈ d.weights Tryd.prog e → n ∈ DataW.weightsAll Tryd.prog e l := by
  induction l with
  | nil => cases h
  | cons x l ih =>
    intro n hn
    unfold DataW.weightsAll
    rcases List.mem_cons.1 h with rfl | h
    · exact List.mem_append_left _ hn
    · exact List.mem_append_right _ (ih h n hn)
section
variable {H : Type} {enc : TypeId × Value → H} {w : World} {base : Nat} {spare : Nat → Bool} {held : Bool}
theorem i64_of {t : TypeId} (ht : Tryd.prog.underlying t = some (.int .i64)) {fuel : Nat} {v : Value} {x : DataW H × List MemPlace} (h : DataW.trod enc Tryd.prog w base spare held fuel t [v] = some x) : ∃ n, v = .int .i64 n ∧ In64 n := by
  obtain ⟨n, rfl, h1, h2⟩ := int_of ht h
  exact ⟨n, rfl, h1, h2⟩
theorem str_of {t : TypeId} (ht : Tryd.prog.underlying t = some .string) {fuel : Nat} {v : Value} {x : DataW H × List MemPlace} (h : DataW.trod enc Tryd.prog w base spare held fuel t [v] = some x) (hz : Reach_ t x.1) : ∃ s, v = .string s ∧ LenOk s.size := by
  obtain ⟨s, h1, h3, _⟩ := DataW.trod_string ht h
  simp at h1
  subst h3
  refine ⟨s, h1, len_ok (k := 1) Nat.one_pos ?_⟩
  have := hz s.data.toList.length (by simp [DataW.weights])
  rw [Nat.mul_one]
  simpa using this
theorem fields_of2 {t : TypeId} {fs : Array Field} (hs : Tryd.prog.underlying t = some (.struct fs)) (hone : oneCellFields Tryd.prog fs = true) (hC : Tryd.prog.cellsOf t = fs.size) {fuel : Nat} {cs : List Value} {x : DataW H × List MemPlace}
    (h : DataW.trod enc Tryd.prog w base spare held fuel t cs = some x) (hz : Reach_ t x.1) :
    cs.length = fs.size ∧ ∃ n : Nat, ∀ (i : Nat) (f : Field), fs[i]? = some f → ∃ (v : Value) (y : DataW H × List MemPlace), cs[i]? = some v ∧ DataW.trod enc Tryd.prog w base spare held n f.type [v] = some y ∧ Reach_ f.type y.1 := by
  obtain ⟨xs, n, _, hxe, hlen, hxs, hf⟩ := DataW.trod_struct hs h
  rw [hC] at hlen
  refine ⟨hlen, n, fun i f hi => ?_⟩
  have hlt : i < fs.size := (Array.getElem?_eq_some_iff.1 hi).1
  obtain ⟨ho, hc1⟩ := hone_of hone i f hi
  have h1 := hf i f hi
  rw [ho, hc1, take1_drop cs i undef (by omega)] at h1
  rw [List.getElem?_eq_getElem (by omega : i < xs.length)] at h1
  refine ⟨cs[i]'(by omega), xs[i]'(by omega), List.getElem?_eq_getElem (by omega), ?_, fun m hm => hz m ?_⟩
  · rw [← h1]
    simp [List.getD, List.getElem?_eq_getElem (by omega : i < cs.length)]
  · subst hxe
    simp only [DataW.weights, hs]
    exact DataW.weights_mem_each (j := i) (by rw [List.getElem?_map]; simp [hi]) (by rw [List.getElem?_map, List.getElem?_eq_getElem (by omega)]; rfl) m hm
theorem open_elems {t e : TypeId} {k : Nat} (ht : Tryd.prog.underlying t = some (.slice e)) (hb : Tryd.prog.bytesOf e = k) (hk : 0 < k)
    {fuel : Nat} {v : Value} {x : DataW H × List MemPlace} (h : DataW.trod enc Tryd.prog w base spare held fuel t [v] = some x) (hz : Reach_ t x.1) :
    ∃ A len cap, v = .slice A len cap ∧ LenOk len ∧ ∀ i, i < len → ∃ (ad : Addr) (cs : List Value) (n : Nat) (y : DataW H × List MemPlace), A = some ad ∧ cs.length = Tryd.prog.cellsOf e ∧
      (∀ (j : Nat) (v : Value), cs[j]? = some v → w.cell? ((ad.add (i * Tryd.prog.cellsOf e)).add j) = some v) ∧ DataW.trod enc Tryd.prog w base spare held n e cs = some y ∧ Reach_ e y.1 := by
  rcases DataW.trod_slice ht h with ⟨hcs, _⟩ | ⟨a, len, cap, elems, rest, n, _, hcs, hxe, _, _, _, hel, hx, _⟩
  · simp at hcs
    subst hcs
    exact ⟨none, 0, 0, rfl, by simp [LenOk], fun i hi => absurd hi (Nat.not_lt_zero _)⟩
  · simp at hcs
    subst hcs
    subst hxe
    have hw : ∀ m, m ∈ (elems.map (·.1)).length * 0 :: DataW.weightsAll Tryd.prog e (elems.map (·.1)) → m ≤ reachBytes := by
      intro m hm
      rcases List.mem_cons.1 hm with rfl | hm
      · omega
      · refine hz m ?_
        simp only [DataW.weights, ht]
        exact List.mem_cons_of_mem _ (List.mem_append_left _ hm)
    refine ⟨some a, len, cap, rfl, ?_, fun i hi => ?_⟩
    · have h1 := hz (((elems.map (·.1)).length + (rest.map (·.1)).length) * Tryd.prog.bytesOf e) (by simp only [DataW.weights, ht]; exact List.mem_cons_self)
      rw [hb, List.length_map, List.length_map, hel] at h1
      exact len_ok hk (Nat.le_trans (Nat.mul_le_mul_right k (Nat.le_add_right _ _)) h1)
    · have h1 := hx i hi
      rw [List.getElem?_eq_getElem (by omega : i < elems.length)] at h1
      cases hc : w.cells? base (a.add (i * Tryd.prog.cellsOf e)) (Tryd.prog.cellsOf e) with
      | none => rw [hc] at h1; cases h1
      | some cs =>
        rw [hc] at h1
        obtain ⟨_, hlen, hcell⟩ := World.cells?_some hc
        refine ⟨a, cs, n, elems[i]'(by omega), rfl, hlen, fun j v hj => ?_, h1, fun m hm => hw m (List.mem_cons_of_mem _ (weights_all (d := (elems[i]'(by omega)).1) ?_ m hm))⟩
        · rw [hcell j (by have := (List.getElem?_eq_some_iff.1 hj).1; omega)]
          exact hj
        · exact List.mem_map.2 ⟨elems[i]'(by omega), List.getElem_mem _, rfl⟩
theorem open_structs2 {t e : TypeId} {k : Nat} {fs : Array Field} (ht : Tryd.prog.underlying t = some (.slice e)) (hs : Tryd.prog.underlying e = some (.struct fs)) (hone : oneCellFields Tryd.prog fs = true) (hC : Tryd.prog.cellsOf e = fs.size) (hb : Tryd.prog.bytesOf e = k) (hk : 0 < k)
    {fuel : Nat} {v : Value} {x : DataW H × List MemPlace} (h : DataW.trod enc Tryd.prog w base spare held fuel t [v] = some x) (hz : Reach_ t x.1) :
    ∃ A len cap, v = .slice A len cap ∧ LenOk len ∧ ∀ i, i < len → ∃ (ad : Addr) (cs : List Value), A = some ad ∧ cs.length = fs.size ∧
      (∀ (j : Nat) (v : Value), cs[j]? = some v → w.cell? ((ad.add (i * fs.size)).add j) = some v) ∧ ∃ n : Nat, ∀ (j : Nat) (f : Field), fs[j]? = some f → ∃ (v : Value) (y : DataW H × List MemPlace), cs[j]? = some v ∧ DataW.trod enc Tryd.prog w base spare held n f.type [v] = some y ∧ Reach_ f.type y.1 := by
  obtain ⟨A, len, cap, rfl, hl, hx⟩ := open_elems ht hb hk h hz
  refine ⟨A, len, cap, rfl, hl, fun i hi => ?_⟩
  obtain ⟨ad, cs, n, y, hA, hlen, hc, htr, hy⟩ := hx i hi
  rw [hC] at hlen hc
  exact ⟨ad, cs, hA, hlen, hc, (fields_of2 hs hone hC htr hy).2⟩
theorem open_nums {fuel : Nat} {v : Value} {x : DataW H × List MemPlace} (h : DataW.trod enc Tryd.prog w base spare held fuel 36 [v] = some x) (hz : Reach_ 36 x.1) :
    ∃ A l c, v = .slice A (List.length l) c ∧ LenOk l.length ∧ (∀ x, x ∈ l → In64 x) ∧ (Res.rd A (ints l)).holds w := by
  obtain ⟨A, len, cap, rfl, hl, hx⟩ := open_elems (k := 8) Tryd.underlying36 (by kernel_rfl) (by omega) h hz
  have c3 : Tryd.prog.cellsOf 3 = 1 := by kernel_rfl
  have : ∀ i, i < len → ∃ k : Int, In64 k ∧ ∃ ad, A = some ad ∧ w.cell? (ad.add i) = some (.int .i64 k) := by
    intro i hi
    obtain ⟨ad, cs, n, y, hA, hlen, hc, htr, _⟩ := hx i hi
    rw [c3] at hlen hc
    match cs, hlen with
    | [c0], _ =>
      obtain ⟨k, rfl, hk⟩ := i64_of Tryd.underlying3 htr
      refine ⟨k, hk, ad, hA, ?_⟩
      have h0 := hc 0 _ rfl
      rw [Nat.mul_one] at h0
      simpa [Addr.add] using h0
  obtain ⟨l, rfl, hp⟩ := list_of this
  refine ⟨A, l, cap, rfl, hl, fun k hk => ?_, fun i v hi => ?_⟩
  · obtain ⟨i, hi⟩ := List.mem_iff_getElem?.1 hk
    exact (hp i k hi).1
  · simp only [ints, List.getElem?_map, Option.map_eq_some_iff] at hi
    obtain ⟨k, hk, rfl⟩ := hi
    exact (hp i k hk).2
theorem open_phis {fuel : Nat} {v : Value} {x : DataW H × List MemPlace} (h : DataW.trod enc Tryd.prog w base spare held fuel 42 [v] = some x) (hz : Reach_ 42 x.1) :
    ∃ A l c, v = .slice A (List.length l) c ∧ LenOk l.length ∧ (∀ p : FPhi, p ∈ l → p.Ok ∧ (Res.rd p.A (ints p.args)).holds w) ∧ (Res.rds A 2 (l.map FPhi.cells)).holds w := by
  obtain ⟨A, len, cap, rfl, hl, hx⟩ := open_structs2 (k := 32) Tryd.underlying42 Tryd.underlying65 (by kernel_rfl) (by kernel_rfl) (by kernel_rfl) (by omega) h hz
  have : ∀ i, i < len → ∃ b : FPhi, (b.Ok ∧ (Res.rd b.A (ints b.args)).holds w) ∧ ∃ ad : Addr, A = some ad ∧ ∀ (j : Nat) (v : Value), b.cells[j]? = some v → w.cell? ((ad.add (i * 2)).add j) = some v := by
    intro i hi
    obtain ⟨ad, cs, hA, hln, hc, n, hf⟩ := hx i hi
    obtain ⟨c0, c1, rfl⟩ := list2 hln
    obtain ⟨_, _, e, g0, zg0⟩ := hf 0 _ rfl
    cases e
    obtain ⟨d, rfl, hd⟩ := i64_of Tryd.underlying3 g0
    obtain ⟨_, _, e, g1, zg1⟩ := hf 1 _ rfl
    cases e
    obtain ⟨Aa, gs, ca, rfl, h1, h2, h3⟩ := open_nums g1 zg1
    exact ⟨⟨d, Aa, ca, gs⟩, ⟨⟨hd, h1, h2⟩, h3⟩, ad, hA, hc⟩
  obtain ⟨l, rfl, hp⟩ := list_of this
  refine ⟨A, l, cap, rfl, hl, fun p hpm => ?_, fun i cs hi => ?_⟩
  · obtain ⟨i, hi⟩ := List.mem_iff_getElem?.1 hpm
    exact (hp i p hi).1
  · rw [List.getElem?_map] at hi
    obtain ⟨b, hb, rfl⟩ := Option.map_eq_some_iff.1 hi
    exact (hp i b hb).2
theorem open_insts {fuel : Nat} {v : Value} {x : DataW H × List MemPlace} (h : DataW.trod enc Tryd.prog w base spare held fuel 41 [v] = some x) (hz : Reach_ 41 x.1) :
    ∃ A l c, v = .slice A (List.length l) c ∧ LenOk l.length ∧ (∀ p : FIns, p ∈ l → p.Ok ∧ (Res.rd p.A (ints p.args)).holds w) ∧ (Res.rds A 5 (l.map FIns.cells)).holds w := by
  obtain ⟨A, len, cap, rfl, hl, hx⟩ := open_structs2 (k := 64) Tryd.underlying41 Tryd.underlying40 (by kernel_rfl) (by kernel_rfl) (by kernel_rfl) (by omega) h hz
  have : ∀ i, i < len → ∃ b : FIns, (b.Ok ∧ (Res.rd b.A (ints b.args)).holds w) ∧ ∃ ad : Addr, A = some ad ∧ ∀ (j : Nat) (v : Value), b.cells[j]? = some v → w.cell? ((ad.add (i * 5)).add j) = some v := by
    intro i hi
    obtain ⟨ad, cs, hA, hln, hc, n, hf⟩ := hx i hi
    obtain ⟨c0, c1, c2, c3, c4, rfl⟩ := list5 hln
    obtain ⟨_, _, e, g0, zg0⟩ := hf 0 _ rfl
    cases e
    obtain ⟨o, rfl, ho⟩ := i64_of Tryd.underlying3 g0
    obtain ⟨_, _, e, g1, zg1⟩ := hf 1 _ rfl
    cases e
    obtain ⟨d, rfl, hd⟩ := i64_of Tryd.underlying3 g1
    obtain ⟨_, _, e, g2, zg2⟩ := hf 2 _ rfl
    cases e
    obtain ⟨m, rfl, hmm⟩ := i64_of Tryd.underlying2 g2
    obtain ⟨_, _, e, g3, zg3⟩ := hf 3 _ rfl
    cases e
    obtain ⟨s, rfl, hs⟩ := str_of Tryd.underlying9 g3 zg3
    obtain ⟨_, _, e, g4, zg4⟩ := hf 4 _ rfl
    cases e
    obtain ⟨Aa, gs, ca, rfl, h1, h2, h3⟩ := open_nums g4 zg4
    exact ⟨⟨o, d, m, s, Aa, ca, gs⟩, ⟨⟨ho, hd, hmm, hs, h1, h2⟩, h3⟩, ad, hA, hc⟩
  obtain ⟨l, rfl, hp⟩ := list_of this
  refine ⟨A, l, cap, rfl, hl, fun p hpm => ?_, fun i cs hi => ?_⟩
  · obtain ⟨i, hi⟩ := List.mem_iff_getElem?.1 hpm
    exact (hp i p hi).1
  · rw [List.getElem?_map] at hi
    obtain ⟨b, hb, rfl⟩ := Option.map_eq_some_iff.1 hi
    exact (hp i b hb).2
theorem open_fblks {fuel : Nat} {v : Value} {x : DataW H × List MemPlace} (h : DataW.trod enc Tryd.prog w base spare held fuel 22 [v] = some x) (hz : Reach_ 22 x.1) :
    ∃ A fs c, v = .slice A (bsOf fs).length c ∧ FOk fs ∧ (Res.fn A fs).holds w := by
  obtain ⟨A, len, cap, rfl, _, hx⟩ := open_structs2 (k := 80) Tryd.underlying22 Tryd.underlying44 (by kernel_rfl) (by kernel_rfl) (by kernel_rfl) (by omega) h hz
  have : ∀ i, i < len → ∃ b : FBlk, (b.Ok ∧ ∀ r, r ∈ b.parts → r.holds w) ∧ ∃ ad : Addr, A = some ad ∧ ∀ (j : Nat) (v : Value), b.sb.cells[j]? = some v → w.cell? ((ad.add (i * 6)).add j) = some v := by
    intro i hi
    obtain ⟨ad, cs, hA, hln, hc, n, hf⟩ := hx i hi
    obtain ⟨c0, c1, c2, c3, c4, c5, rfl⟩ := list6 hln
    obtain ⟨_, _, e, g0, zg0⟩ := hf 0 _ rfl
    cases e
    obtain ⟨pA, ps, pc, rfl, hp1, hp2, hp3⟩ := open_phis g0 zg0
    obtain ⟨_, _, e, g1, zg1⟩ := hf 1 _ rfl
    cases e
    obtain ⟨iA, js, ic, rfl, hi1, hi2, hi3⟩ := open_insts g1 zg1
    obtain ⟨_, _, e, g2, zg2⟩ := hf 2 _ rfl
    cases e
    obtain ⟨x2, rfl, h2⟩ := i64_of Tryd.underlying3 g2
    obtain ⟨_, _, e, g3, zg3⟩ := hf 3 _ rfl
    cases e
    obtain ⟨x3, rfl, h3⟩ := i64_of Tryd.underlying3 g3
    obtain ⟨_, _, e, g4, zg4⟩ := hf 4 _ rfl
    cases e
    obtain ⟨x4, rfl, h4⟩ := i64_of Tryd.underlying3 g4
    obtain ⟨_, _, e, g5, zg5⟩ := hf 5 _ rfl
    cases e
    obtain ⟨x5, rfl, h5⟩ := i64_of Tryd.underlying3 g5
    refine ⟨⟨pA, pc, ps, iA, ic, js, x2, x3, x4, x5⟩, ⟨⟨hp1, fun p hp => (hp2 p hp).1, hi1, fun p hp => (hi2 p hp).1, h2, h3, h4, h5⟩, fun r hr => ?_⟩, ad, hA, hc⟩
    unfold FBlk.parts at hr
    rcases List.mem_cons.1 hr with rfl | hr
    · exact hp3
    · rcases List.mem_cons.1 hr with rfl | hr
      · exact hi3
      · rcases List.mem_append.1 hr with hr | hr
        · obtain ⟨p, hp, rfl⟩ := List.mem_map.1 hr
          exact (hp2 p hp).2
        · obtain ⟨p, hp, rfl⟩ := List.mem_map.1 hr
          exact (hi2 p hp).2
  obtain ⟨fs, rfl, hbs⟩ := list_of this
  refine ⟨A, fs, cap, by rw [bsOf_len], fun x hx => ?_, fun r hr => ?_⟩
  · obtain ⟨i, hi⟩ := List.mem_iff_getElem?.1 hx
    exact (hbs i x hi).1.1
  · rcases List.mem_cons.1 hr with rfl | hr
    · intro i cs hi
      unfold bsOf at hi
      rw [List.getElem?_map, List.getElem?_map] at hi
      obtain ⟨b, hb, rfl⟩ := Option.map_eq_some_iff.1 hi
      obtain ⟨y, hy, rfl⟩ := Option.map_eq_some_iff.1 hb
      exact (hbs i y hy).2
    · obtain ⟨y, hy, hr⟩ := List.mem_flatMap.1 hr
      obtain ⟨i, hi⟩ := List.mem_iff_getElem?.1 hy
      exact (hbs i y hi).1.2 r hr
set_option maxRecDepth 10000 in
theorem open_ffunc {r : Reach} {b0 : Nat} {v : Value} {d : DataW H} {p : List MemPlace} (hok : Value.okWide Tryd.prog w r b0 24 v) (h : DataW.Trod enc Tryd.prog w base spare held 24 v d p) (hz : Reach_ 24 d) :
    ∃ nm wk pa va A fs c, v = .agg #[.string nm, .bool wk, .int .i64 pa, .int .i64 va, .slice A (bsOf fs).length c] ∧ FOk fs ∧ (Res.fn A fs).holds w := by
  obtain ⟨cs, rfl, _⟩ := okWide_struct Tryd.underlying24 hok
  obtain ⟨fuel, h⟩ := h
  obtain ⟨hl, n, hf0⟩ := fields_of2 Tryd.underlying24 (by kernel_rfl) (by kernel_rfl) (cs := cs.toList) (by simpa [Value.cells] using h) hz
  have hf := fun (i : Nat) (f : Field) hi => (hf0 i f hi)
  have hsz : cs.size = 5 := by simpa using hl
  obtain ⟨c0, c1, c2, c3, c4, rfl⟩ := array5 hsz
  obtain ⟨_, _, e, g0, zg0⟩ := hf 0 _ rfl
  cases e
  obtain ⟨nm, rfl, _⟩ := str_of Tryd.underlying9 g0 zg0
  obtain ⟨_, _, e, g1, zg1⟩ := hf 1 _ rfl
  cases e
  obtain ⟨wk, hw, _⟩ := DataW.trod_bool Tryd.underlying4 g1
  simp at hw
  subst hw
  obtain ⟨_, _, e, g2, zg2⟩ := hf 2 _ rfl
  cases e
  obtain ⟨pa, rfl, _⟩ := i64_of Tryd.underlying3 g2
  obtain ⟨_, _, e, g3, zg3⟩ := hf 3 _ rfl
  cases e
  obtain ⟨va, rfl, _⟩ := i64_of Tryd.underlying3 g3
  obtain ⟨_, _, e, g, zg⟩ := hf 4 _ rfl
  cases e
  obtain ⟨A, fs, c, rfl, h1, h2⟩ := open_fblks g zg
  exact ⟨nm, wk, pa, va, A, fs, c, rfl, h1, h2⟩
end
end Go.Proofs.YtlfbloadopeamaaDoor
